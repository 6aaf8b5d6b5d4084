import Derived.Deep.LoopGhost
import Derived.Deep.RegionHeld3
import Derived.Deep.RegionLaw
import Derived.Laws.EntriesVeiled
import Derived.Test.YtjmbkfjklemmpaaGreatDoorJ13
set_option linter.all false
set_option maxRecDepth 100000
set_option maxHeartbeats 32000000
open Go renaming World->W_,Value->V_,maxLen->m_,TypeId->T_
namespace Go.Proofs.YtjmbkfjklemmpaaGreatDoor
section
open Go.Maps Go.RowKit Go.Sort Tryz
inductive LC(g:St->List St)(r:St):St->Prop
 |refl:LC g r r
 |step {s t:St}:LC g r s->t∈g s->LC g r t
structure BF(g:St->List St)(r:St)(U:List St)(D:List St)(p:Nat)(T:List St):Prop where
 nodup:D.Nodup
 sub:∀s∈D,s∈U
 root:r∈D
 reach:∀s∈D,LC g r s
 done:∀i x,i<p->D[i]?=some x->∀s∈g x,s∈D
 now:∀s∈T,s∈D
section
variable{g:St->List St}{r:St}{U D T:List St}{p:Nat}
end
def QT(w:W_){P:Program}{k:T_}{c:Type}[DecidableEq c]{d:Array Oper}{rest:List Oper}{o:Oper}{a:Act}{Q:Exit->Act->W_->Prop}(h:o.guard=none)(m x v:Operand)(t:T_)(C:o.op=Op.insert t m x v)(e:T_)(K:KK P k c)(i:P.underlying t=some (.map k e))(b n:Nat)(f:c->Option V_)(j:a.eval m=.map (some b))(F:t_ w K b n f)(l:n<m_)(y:c)(q:K.ok y)(u:V_)(s:a.eval x=K.kv y)(hv:a.eval v=u)(A:∀w',t_ w' K b (n+1) (upd f y (some u))->w.grownBy w' (some b)->wpList P d Q rest (a.put o.dst undef) w'):wpList P d Q (o::rest) a w:=by(refine hb_ h λI E=>?_);obtain⟨w',H,r1,B⟩:=F.put i l q u;unfold Oper.wp;simp[execOp,C,j,s,hv,H,Result.andThen];exact E _ _ (A w' r1 B)
end
section
open Go.Maps Go.RowKit Tryz
noncomputable def KN:KK prog 3 Int:=abd underlying3
def wfN(n:Int)(h:(Lit.int .i64 n).wf=true):(KN).ok n:=h
def wO(w:W_){c:Array Oper}{rest:List Oper}{o:Oper}{a:Act}{Q:Exit->Act->W_->Prop}(d:o.guard=none)(m x v:Operand)(t:T_)(p:o.op=Op.insert t m x v)(e:T_)(g:prog.underlying t=some (.map 3 e))(b n:Nat)(f:Int->Option V_)(h:a.eval m=.map (some b))(q:t_ w KN b n f)(i:n<m_)(y:Int)(j:a.eval x=.int .i64 y)(u:V_)(hv:a.eval v=u)(k:(Lit.int .i64 y).wf=true)(l:∀w',t_ w' KN b (n+1) (upd f y (some u))->w.grownBy w' (some b)->wpList prog c Q rest (a.put o.dst undef) w'):wpList prog c Q (o::rest) a w:=QT w d m x v t p e KN g b n f h q i y (wfN y k) u j hv l
def XF:Int->Option V_:=λk=>if k=7 then some (.func (.func 338) #[] #[]) else if k=6 then some (.func (.func 337) #[] #[]) else if k=5 then some (.func (.func 336) #[] #[]) else if k=4 then some (.func (.func 335) #[] #[]) else if k=3 then some (.func (.func 334) #[] #[]) else if k=2 then some (.func (.func 333) #[] #[]) else if k=1 then some (.func (.func 332) #[] #[]) else none
def abU(w:W_)(e:Ending)(w':W_):Prop:=∃pm pa,e=.returned (.agg #[.map (some pm),.map (some pa)])/\t_ w' KN pm 7 XF/\G w w'
def adP{w:W_}{g:Nat}{a b:V_}(h:f_ w g 376 #[a,b]):(loadVar 376 ⟨g,0,none⟩).run prog w=.ok (.agg #[a,b]) w:=by have c:=h.cell 0;have d:=h.cell 1;simp at c d;simp[loadVar,go_sem,c,d]
def FD(w:W_):z 312 #[] w (abU w):=by have A:= @run_makeMap prog;obtain⟨b,h⟩:∃b,w.alloc (.cells #[.map none,.map none] 376)=b:=⟨_,rfl⟩;have p:G w b:=(by rw[<-h];exact bA);have q:f_ b w.heap.size 376 #[.map none,.map none]:=(by rw[<-h];exact f_.new _ _ _);(have m:b.heap.size=w.heap.size+1:=by rw[<-h];simp);have l:Hid (t_ (b.alloc (.map #[] 0)) KN (w.heap.size+1) 0 (λ_=>none)):=O (by rw[<-m];exact t_.made b KN);have i:Hid (Below (w.heap.size+1) b (b.alloc (.map #[] 0))):=O (by rw[<-m];exact bA);go_in;(iterate 7 go_wp2_with (first|rw[h]|refine wO _ rfl _ _ _ 373 rfl _ underlying373 (w.heap.size+1) _ _ rfl l.o ?ca _ rfl _ rfl D ?_);(try (case ca=>simp[m_]));intro a f g;replace l:=O f;replace i:=O (i.o.grown g (by have:=i.o.size;omega) (λj e=>by injection e with e;omega));clear f g);have n:t_ a KN (w.heap.size+1) 7 XF:=(l.o.congr λx _=>by unfold upd XF;rfl);(have B:w.heap.size+1+1<=a.heap.size:=by have:=n.lt;omega);have o:Hid (t_ (a.alloc (.map #[] 0)) KN a.heap.size 0 (λ_=>none)):=O (t_.made a KN);have d:Hid (G a (a.alloc (.map #[] 0))):=O bA;clear l;(iterate 9 go_wp2_with (first|rw[h]|refine wO _ rfl _ _ _ 374 rfl _ underlying374 a.heap.size _ _ rfl o.o ?cb _ rfl _ rfl D ?_);(try (case cb=>simp[m_]));intro c f g;replace o:=O f;replace d:=O (d.o.grown g (by have:=d.o.size;omega) (λj e=>by injection e with e;omega));clear f g);have r:t_ c KN (w.heap.size+1) 7 XF:=(n.up d.o);have s:G w a:=(p.trans (i.o.mono U));have t:G w c:=(b_ s d.o);have k:f_ c w.heap.size 376 #[.map none,.map none]:=bk d.o ((i.o.block w.heap.size U).trans q);have u:=k.frozen 0;have v:=k.frozen 1;have y:N c w 0 (.map none):=k.cell 0;have g1:N c w 1 (.map none):=k.cell 1;go_wp2_with fail;have hb:f_ ((c.setCell ⟨w.heap.size,0,none⟩ (.map (some (w.heap.size+1)))).setCell ⟨w.heap.size,1,none⟩ (.map (some a.heap.size))) w.heap.size 376 #[.map (some (w.heap.size+1)),.map (some a.heap.size)]:=(k.iK 0 _).iK 1 _;refine qW (gq rfl _ _ rfl (adP hb)) rfl ⟨_,_,rfl,?_,P5 (P5 t (fU _) _) (fU _) _⟩;exact(r.setCell (by simp only;omega) _).setCell (by simp only;omega) _
def FE(c:St):∀l:List St,Lib.join l c=mF c l
 |[]=>rfl
 |[a]=>by rw[Lib.join_one];rfl
 |a::b::l=>by
  have:=FE c (b::l);rw[Lib.join_cons]at this ⊢;rw[mF,<-this];simp[Lib.joinTail]
def tK(c:St):∀l:List St,(mF c l).length<=(l.map λs=>s.length+c.length).sum
 |[]=>by simp[mF]
 |[a]=>by simp[mF]
 |a::b::l=>by
  have:=tK c (b::l);simp only[mF,lG,ZB,List.sum_cons]at this ⊢;omega
def N8(ss:List St)(a:St)(v:V_)(w:W_)(h:lg w v ss)(hl:(mF a ss).length<=140737488355328)(m:ss.length<=1000000):z 308 #[v,d_ a] w λe w'=>e=.returned (d_ (mF a ss))/\G w w':=by obtain⟨A,c,rfl,hc,n,i⟩:=S1.form h;by_cases d:ss=[];(·subst d;refine(Tryz.strings_Join_none A c _ w).mono ?_;rintro e w' ⟨rfl,rfl⟩;exact⟨rfl,fD _ _⟩);·obtain⟨b,o,rfl,hb,l⟩:=i (en_.2 d);(have f:((ss.map λs=>(⟨s.toArray⟩:ByteArray)).map (·.data.toList))=ss:=by(rw[SY];conv=>rhs;rw[<-List.map_id ss]);exact List.map_congr_left λs _=>S);have:=Tryz.strings_Join b o c (ss.map λs=>⟨s.toArray⟩) ⟨a.toArray⟩ w (λj x g=>?_) hb (by simp;omega) (Q hc) (by rw[f,FE];exact hl);(·rw[f,FE,oD]at this;exact this);·rw[Cx]at g;obtain⟨s,k,rfl⟩:=M0.1 g;exact l j s k
def Ac:∀l:List Cn,Qr l=l.map I_
 |[]=>by unfold Qr;rfl
 |c::l=>by unfold Qr;rw[Ac l];rfl
def FH(c:Cn):Prop:=∀d∈c.pre,fI d=0
def FH.part{c p:Cn}(h:FH c)(a:p∈c.parts):FH p:=λd b=>h d (WU a b)
def FH.own{c:Cn}(h:FH c):fI c=0:=h c (by rw[pre_eq];simp)
def CX:∀{l:List Cn},jF l=0->∀d∈l,fI d=0
 |y::l,h,d,b=>by
  unfold jF at h;by_cases a:fI y=0;(·rw[u_ (Q a)]at h;rcases jU.1 b with rfl|b;(·exact a);·exact CX h d b);·rw[A_ a]at h;exact absurd h a
def jR{c:Cn}(h:r_ c=0):FH c:=by unfold r_ at h;split at h;(·exact CX h);·cases h
def xJ{s:St}(h:fE s=true):s.length<=24:=by unfold fE at h;split at h;(·cases h);·omega
def gQ{c:Cn}(h:fI c=0):1<=c.kind/\c.kind<=7/\(c.kind=6->c.parts.length=1)/\(c.kind=5->2<=c.parts.length/\c.parts.length<=8)/\c.name.length<=24/\(c.kind≠5->c.kind≠6->c.parts.length=0)/\-maxNum<=c.lo/\c.lo<=maxNum/\-maxNum<=c.hi/\c.hi<=maxNum:=by unfold fI at h;split at h;(·cases h);rename_i m;split at h;(·cases h);rename_i f;split at h;(·cases h);rename_i g;(have l:c.name.length<=24:=by split at h;(·rename_i a;rcases a with a|a|a;(·by_cases j:c.name=[];(·rw[j];simp);·exact absurd (.inr (.inr ⟨a,j⟩)) f);(·exact xJ a);·have:=a.2;unfold iy at this;split at this;(·simp at this;omega);·cases this);·cases h);(have k:¬c.parts.length<jW c.kind:=λh=>f (.inl h));(have e:¬mD c.kind<c.parts.length:=λh=>f (.inr (.inl h)));refine⟨U,U,λb=>?_,λd=>?_,l,λd b=>?_,?_⟩;(·rw[b,show jW 6=1 from rfl]at k;rw[b,show mD 6=1 from rfl]at e;omega);(·rw[d,show jW 5=2 from rfl]at k;rw[d,show mD 5=8 from rfl]at e;omega);(·unfold mD at e;rw[u_ d,u_ b]at e;omega);·unfold maxNum at g ⊢;by_cases i:c.kind=7;(·have:=g;simp only[i]at this;simp at this;omega);·have:=g;simp[i]at this;omega
def LD(c:Cn):Prop:=∀(w:W_)(pm pa:Nat)(v:V_),Tab w->t_ w KN pm 7 XF->CV w v c-> z 313 #[.agg #[.map (some pm),.map (some pa)],v] w λe w'=>e=.returned (d_ (jc c))/\G w w'
def Z8(c:Cn):Prop:=∀(w:W_)(pm pa:Nat)(v:V_),Tab w->t_ w KN pm 7 XF->CV w v c-> z 358 #[.agg #[.map (some pm),.map (some pa)],v] w λe w'=>e=.returned (d_ (I_ c))/\G w w'
def mO(a b:St):(⟨a.toArray⟩:ByteArray)++⟨b.toArray⟩=⟨(a++b).toArray⟩:=by(have:∀x y:ByteArray,x++y=⟨x.data++y.data⟩:=λx y=>by ext1;simp);rw[this];simp
def QU(c:Cn)(d:LD c)(hl:(jc c).length<=1000000):Z8 c:=λw f g v p h hc=>by obtain⟨A,cap,rfl,_,_,_⟩:=hc.form;(have b:Hid (∀W,G w W->z 313 #[.agg #[.map (some f),.map (some g)],.agg #[c.kind,d_ c.name,c.lo,c.hi,.slice A c.parts.length cap]] W λe w'=>e=.returned (d_ (jc c))/\G W w'):=O λW i=>d W f g _ (p.up i) (h.up i) (hc.up i));unfold d_ at b;have j:G w ((w.alloc (.cells #[.map (some f),.map (some g)] 376)).alloc (.cells #[c.kind,c.name,c.lo,c.hi,.slice A c.parts.length cap] 40)):=L_ bA _;have m:=(b.o _ j);by_cases a:c.kind=5;(·have k:I_ c=40::jc c++[41]:=(by unfold I_;rw[A_ a]);have n:(c.kind==5)=true:=Q a;have q:¬9223372036854775807<1+(jc c).length:=U;have r:¬9223372036854775807<1+(jc c).length+1:=U;clear a h hc d b;unfold d_;go_in;go_wp2_with fail;refine m.mono ?_;rintro e o ⟨rfl,l⟩;go_wp2;go_ret;refine⟨?_,b_ j l⟩;rw[k];show Ending.returned (.string ((⟨[40].toArray⟩++⟨(jc c).toArray⟩)++⟨[41].toArray⟩))=_;rw[mO,mO];rfl);·have k:I_ c=jc c:=(by unfold I_;rw[u_ a]);have n:(c.kind==5)=false:=Q a;clear a h hc d b;unfold d_;go_in;go_wp2_with fail;refine m.mono ?_;rintro e o ⟨rfl,l⟩;go_wp2;go_ret;exact⟨by rw[k];rfl,b_ j l⟩
abbrev WE(k:Int)(n:St)(l h:Int)(A:Option Addr)(m cap:Nat):Array V_:= #[k,d_ n,l,h,.slice A m cap]
abbrev XG(pm pa:Nat):V_:= .agg #[.map (some pm),.map (some pa)]
def JB(ss:List St)(v:V_)(w:W_)(h:lg w v ss)(hl:(mF [32] ss).length<=1000000000)(a:ss.length<=1000000):z 359 #[v] w λe w'=>e=.returned (d_ (mF [32] ss))/\G w w':=by have b:=O (N8 ss [32] v w h U a);obtain⟨A,c,rfl,_⟩:=S1.form h;clear h;go_in;go_wp2_with fail;refine b.o.mono ?_;rintro e f ⟨rfl,d⟩;go_wp2;go_ret;exact⟨rfl,d⟩
def Z9(a b:Nat)(k:Int)(n:St)(l h:Int)(A:Option Addr)(m cap:Nat)(w:W_):z 332 #[XG a b,.agg (WE k n l h A m cap)] w λe w'=>e=.returned (d_ [101,118,101,114,121,116,104,105,110,103])/\G w w':=by unfold d_;go_in;go_wp2;go_ret;exact⟨rfl,L_ bA _⟩
def QV(a b:Nat)(k:Int)(n:St)(l h:Int)(A:Option Addr)(m cap:Nat)(w:W_):z 333 #[XG a b,.agg (WE k n l h A m cap)] w λe w'=>e=.returned (d_ [110,111,116,104,105,110,103])/\G w w':=by unfold d_;go_in;go_wp2;go_ret;exact⟨rfl,L_ bA _⟩
def U2(a b:Nat)(k:Int)(n:St)(l h:Int)(A:Option Addr)(m cap:Nat)(w:W_):z 334 #[XG a b,.agg (WE k n l h A m cap)] w λe w'=>e=.returned (d_ n)/\G w w':=by unfold WE d_;go_in;go_wp2;go_ret;exact⟨rfl,L_ bA _⟩
def N9(a b:Nat)(k:Int)(n:St)(l h:Int)(A:Option Addr)(m cap:Nat)(w:W_)(c:n.length<=1000000):z 335 #[XG a b,.agg (WE k n l h A m cap)] w λe w'=>e=.returned (d_ (123::n++[125]))/\G w w':=by unfold WE d_;have d:¬9223372036854775807<1+n.length:=U;have f:¬9223372036854775807<1+n.length+1:=U;go_in;go_wp2;go_ret;refine⟨?_,L_ bA _⟩;show Ending.returned (.string ((⟨[123].toArray⟩++⟨n.toArray⟩)++⟨[125].toArray⟩))=_;rw[mO,mO];rfl
def aac(c d:Nat)(k:Int)(n:St)(l h:Int)(ps:List Cn)(v:V_)(w:W_)(aa:Tab w)(L:t_ w KN c 7 XF)(hc:CV w v (.mk k n l h ps))(P:∀p∈ps,Z8 p)(aR:ps.length<=1000)(hl:(mF [32,97,110,100,32] (ps.map I_)).length<=1000000000):z 336 #[XG c d,v] w λe w'=>e=.returned (d_ (mF [32,97,110,100,32] (ps.map I_)))/\G w w':=by
 obtain⟨A,cap,rfl,_,_,T⟩:=hc.form;have aF:=O aa;have ao:=O L;have ap:=O P;have aq:=O T;have ar:=O hl;obtain⟨is,aG,aL,aM,aN⟩:=qV oI;obtain⟨a,s⟩:∃a,(w.alloc (.cells #[.map (some c),.map (some d)] 376)).alloc (.cells (WE k n l h A ps.length cap) 40)=a:=⟨_,rfl⟩;(have ab:G w a:=by rw[<-s];exact L_ bA _);(have ac:f_ a w.heap.size 376 #[.map (some c),.map (some d)]:=by rw[<-s];exact(f_.new _ _ _).alloc _);(have ad:f_ a (w.heap.size+1) 40 (WE k n l h A ps.length cap):=by rw[<-s];exact f_.newAt _ _ _ S);have ae:=O ab;have y:=O ac;have au:N a (w.heap.size+1) 4 (.slice A ps.length cap):=ad.cell 4;clear aa L hc P T hl ab ac ad;simp only[Cn.parts,Cn.kind,Cn.name,Cn.lo,Cn.hi]at *;unfold XG;go_in;go_wp2_with (rw[s]);clear au;go_loopw [5,11] (λav i wr=>∃(j:Nat)(ss:List St),j<=ps.length/\i=.int .i64 (j:Int)/\a.heap.size<=wr.heap.size/\Hid (ss=(ps.take j).map I_)/\Hid (wr.ownsRow a.heap.size 9 1 av ss.length (ss.map d_))/\Hid (G a wr)) (λ_ i _=>ps.length-(intOf i).toNat);exact⟨0,[],gL _,rfl,fU _,O S,O (Ba _ _ _ _),O (fD _ _)⟩;obtain⟨j,ss,aS,rfl,aU,B,t,f⟩:=hrel;obtain⟨X,Z,rfl⟩:=o_ t.o;(have aV:ss.length<=1000:=by rw[B.o];simp;omega);by_cases aH:j<ps.length
 ·obtain⟨b,o,rfl,hb,am⟩:=aq.o U
  obtain⟨p,q⟩:=g_ aH;obtain⟨aT,af,C⟩:=am j p q;obtain⟨x,kp,rfl⟩:=C.cells;have E:G w wr:=b_ ae.o f.o;(have key:∀(i:Nat) u,[Value.int .i64 p.kind,d_ p.name,.int .i64 p.lo,.int .i64 p.hi,.slice x p.parts.length kp][i]?=some u->N wr b (o+j*5+i) u:=λi u r=>by have:=af i u r;rw[M4 5 j]at this;exact(E.cell (p:=⟨b,o+j*5+i,none⟩) hb).trans this);have k0:N wr b (o+j*5) p.kind:=key 0 _ rfl;have aw:N wr b (o+j*5+1) p.name:=key 1 _ rfl;have ax:N wr b (o+j*5+2) p.lo:=key 2 _ rfl;have k3:N wr b (o+j*5+3) p.hi:=key 3 _ rfl;have k4:N wr b (o+j*5+4) (.slice x p.parts.length kp):=key 4 _ rfl;have q1:(0:Int)<=(j:Int):=U;have q2:(j:Int)<(ps.length:Int):=U;have ay:N wr w 0 (.map (some c)):=(bk f.o y.o).cell 0;have az:N wr w 1 (.map (some d)):=(bk f.o y.o).cell 1;have z0:w.heap.size<wr.heap.size:=(bk f.o y.o).lt;have ag:Hid (∀W,G wr W->z 358 #[.agg #[.map (some c),.map (some d)],.agg #[p.kind,p.name,p.lo,p.hi,.slice x p.parts.length kp]] W λe w'=>e=.returned (d_ (I_ p))/\G W w'):=O λW aA=>by have F:=b_ E aA;exact ap.o p (gM q) W c d _ (aF.o.up F) (ao.o.up F) ((C.up F).cv)
  have aI:Hid ((ps.take (j+1)).map I_=(ps.take j).map I_++[I_ p]):=O (by
   obtain⟨aB,aC⟩:=iR.1 q
   rw[Ht aB,aC,sJ];rfl)
  clear am af C q E key;go_wp2_with fail;refine(ag.o _ bA).mono ?_;rintro e m ⟨rfl,ah⟩;have I:G wr m:=b_ bA ah;have ai:Hid (m.ownsRow a.heap.size 9 1 (.slice X ss.length Z) ss.length (ss.map d_)):=O (gB t.o I);have aj:Hid (G a m):=O (b_ f.o I);have aW:a.heap.size<=m.heap.size:=aj.o.size;clear ah I k0 aw ax k3 k4 ay az z0 ag;go_wp2_with (at_builtin;refine Ih _ rfl _ _ 41 rfl a.heap.size 9 is (.string ⟨#[]⟩) 1 16 underlying41 aG aL aM aN rfl D (.slice X ss.length Z) ss.length (ss.map d_) rfl (gB ai.o bA) ⟨m.heap.size,0,none⟩ 1 1 [d_ (I_ p)] rfl rfl ?c1 ?c2 ?c3 ?c4 ?c5 ?_);(try (case c1=>exact yV _ _ rfl _ _));(case c2=>first|rfl|(intro u r;simp at r;subst r;rfl));(case c3=>simp only[m_];omega);(case c4=>omega);(case c5=>first|omega|(simp;omega));intro v' ak al an _ _;have K:G a ak:=(L_ aj.o _).grown an (by simp;omega) (λg aD=>(ai.o.lt g aD).1);have aO:Hid (ak.ownsRow a.heap.size 9 1 v' (ss++[I_ p]).length ((ss++[I_ p]).map d_)):=O (by rw[lG,sJ];exact al);have aP:=O K;have aQ:=K.size;clear al an K;go_wp2;go_roundw;exact⟨j+1,ss++[I_ p],U,R,aQ,O (by rw[aI.o,B.o]),aO,aP⟩;exact M
 ·(obtain rfl:j=ps.length:=by omega);(have H:ss=ps.map I_:=by have:=B.o;rwa[jh]at this);have aJ:=O (N8 ss [32,97,110,100,32] _ wr (iL t.o) (by rw[H];have:=ar.o;omega) U);have aE:=O H;clear H;go_wp2_with fail;refine aJ.o.mono ?_;rintro e w5 ⟨rfl,aK⟩;go_wp2;go_ret;exact⟨by rw[<-aE.o];rfl,b_ (b_ ae.o f.o) aK⟩
def Oa(n:Int)(b: -9223372036854775808<=n)(a:n<=9223372036854775807)(w:W_)(c:Tab w):z 220 #[n] w λe w'=>e=.returned (Lib.itoa n)/\G w w':=
 (Tryz.strconv_Itoa n b a w c).mono λe w' h=>by obtain⟨a,k,os,rfl⟩:=h;exact⟨a,below_grow w k os⟩
def XH(c d:Nat)(k:Int)(n:St)(l h:Int)(p:Cn)(v:V_)(w:W_)(F:Tab w)(B:t_ w KN c 7 XF)(hc:CV w v (.mk k n l h [p]))(C:Z8 p)(ai:n.length<=1000000)(hl:(I_ p).length<=1000000):z 337 #[XG c d,v] w λe w'=>e=.returned (d_ ([115,111,109,101,32]++n++[32]++I_ p))/\G w w':=by
 obtain⟨A,cap,rfl,_,_,E⟩:=hc.form;obtain⟨b,o,ae,hb,P⟩:=E (by show 0<1;omega);obtain⟨aj,H,m⟩:=P 0 p rfl;obtain⟨g,kp,rfl⟩:=m.cells;simp only[Cn.parts,Cn.kind,Cn.name,Cn.lo,Cn.hi]at *;subst ae;obtain⟨a,f⟩:∃a,(w.alloc (.cells #[.map (some c),.map (some d)] 376)).alloc (.cells #[k,d_ n,l,h,.slice (some ⟨b,o,none⟩) 1 cap] 40)=a:=⟨_,rfl⟩;(have q:G w a:=by rw[<-f];exact L_ bA _);(have r:f_ a w.heap.size 376 #[.map (some c),.map (some d)]:=by rw[<-f];exact(f_.new _ _ _).alloc _);(have t:f_ a (w.heap.size+1) 40 #[k,d_ n,l,h,.slice (some ⟨b,o,none⟩) 1 cap]:=by rw[<-f];exact f_.newAt _ _ _ S);(have key:∀(i:Nat) u,[Value.int .i64 p.kind,d_ p.name,.int .i64 p.lo,.int .i64 p.hi,.slice g p.parts.length kp][i]?=some u->N a b (o+i) u:=λi u T=>by have:=H i u T;rw[Nat.mul_zero,eo_]at this;exact(q.cell (p:=⟨b,o+i,none⟩) hb).trans this);have k0:∀s:Later a,N s.at b o p.kind:=G_ (key 0 _ rfl);have W:∀s:Later a,N s.at b (o+1) p.name:=G_ (key 1 _ rfl);have X:∀s:Later a,N s.at b (o+2) p.lo:=G_ (key 2 _ rfl);have k3:∀s:Later a,N s.at b (o+3) p.hi:=G_ (key 3 _ rfl);have k4:∀s:Later a,N s.at b (o+4) (.slice g p.parts.length kp):=G_ (key 4 _ rfl);have Z:∀s:Later a,N s.at w 0 (.map (some c)):=C_ r 0 rfl;have aa:∀s:Later a,N s.at w 1 (.map (some d)):=C_ r 1 rfl;have ab:∀s:Later a,N s.at (w.heap.size+1) 1 n:=C_ t 1 rfl;have ac:∀s:Later a,N s.at (w.heap.size+1) 4 (.slice (some ⟨b,o,none⟩) 1 cap):=C_ t 4 rfl
 have x:∀s:Later a,z 358 #[.agg #[.map (some c),.map (some d)],.agg #[p.kind,p.name,p.lo,p.hi,.slice g p.parts.length kp]] s.at λe af=>e=.returned (I_ p)/\∃ad:Later a,af=ad.at:=λs=>nL (by
  have y:=b_ q s.below
  exact C s.at c d _ (F.up y) (B.up y) ((m.up y).cv))
 unfold d_ at f;unfold XG;go_in;go_wp2_with (rw[f]);refine jQ 8 (by kernel_rfl) (by kernel_rfl) ?_;simp only[SX,ZF,Zn,ZG];(repeat (first|go_big_quiet_step (with_reducible exact x _)|quiet_step (with_reducible exact x _)));refine wpQuiet_nil ?_;rintro _ ⟨s,rfl⟩;have ag:=(b_ q s.below);generalize s.at=j at *;(have I:(mF [32] [[115,111,109,101],n,I_ p]).length<=1000000000:=by have:=tK [32] [[115,111,109,101],n,I_ p];simp at this;omega);have K:=(JB [[115,111,109,101],n,I_ p] (.slice (some ⟨j.heap.size,0,none⟩) 3 3) (j.alloc (.cells #[.string ⟨#[115,111,109,101]⟩,n,(I_ p)] 9)) (S1.lit j _ rfl 9 _ d_ _ 3 rfl rfl (by simp[m_])) I S);go_wp2_with fail;refine K.mono ?_;rintro e ak ⟨rfl,L⟩;have ah:=(b_ (L_ ag _) L);go_wp2;go_ret;refine⟨?_,ah⟩;show Ending.returned (d_ _)=Ending.returned (d_ _);simp[mF]
def U3(y B:Nat)(k:Int)(n:St)(l h:Int)(A:Option Addr)(m cap:Nat)(w:W_)(q:Tab w)(aa:n.length<=1000000)(r: -9223372036854775808<=l)(hl1:l<=9223372036854775807)(t: -9223372036854775808<=h)(u:h<=9223372036854775807):z 338 #[XG y B,.agg (WE k n l h A m cap)] w λe w'=>e=.returned (d_ (n++[32,105,110,32]++Lib.itoa l++[32,116,111,32]++Lib.itoa h))/\G w w':=by obtain⟨a,b⟩:∃a,(w.alloc (.cells #[.map (some y),.map (some B)] 376)).alloc (.cells (WE k n l h A m cap) 40)=a:=⟨_,rfl⟩;(have c:G w a:=by rw[<-b];exact L_ bA _);(have d:f_ a (w.heap.size+1) 40 (WE k n l h A m cap):=by rw[<-b];exact f_.newAt _ _ _ S);have I:∀s:Later a,N s.at (w.heap.size+1) 1 n:=C_ d 1 rfl;have K:∀s:Later a,N s.at (w.heap.size+1) 2 l:=C_ d 2 rfl;have L:∀s:Later a,N s.at (w.heap.size+1) 3 h:=C_ d 3 rfl;(have f:Hid (∀s:Later a,z 220 #[l] s.at λe v=>e=.returned (Lib.itoa l)/\∃o:Later a,v=o.at):=O λs=>nL (Oa l r hl1 s.at (q.up (b_ c s.below))));(have g:Hid (∀s:Later a,z 220 #[h] s.at λe v=>e=.returned (Lib.itoa h)/\∃o:Later a,v=o.at):=O λs=>nL (Oa h t u s.at (q.up (b_ c s.below))));have P:=ig_ l r hl1;have T:=ig_ h t u;have W:=O c;(have x:(mF [32] [n,[105,110],Lib.itoa l,[116,111],Lib.itoa h]).length<=1000000000:=by have:=tK [32] [n,[105,110],Lib.itoa l,[116,111],Lib.itoa h];simp at this;omega);obtain⟨C,i⟩:=e_ (Lib.itoa l);obtain⟨E,j⟩:=e_ (Lib.itoa h);rw[i,j]at x;rw[i]at f;rw[j]at g;rw[i,j];unfold WE d_ at b ⊢;unfold XG;go_in;go_wp2_with (rw[b]);refine jQ 8 (by kernel_rfl) (by kernel_rfl) ?_;simp only[SX,ZF,Zn,ZG];(repeat (first|go_big_quiet_step (first|with_reducible exact f.o _|with_reducible exact g.o _)|quiet_step (first|with_reducible exact f.o _|with_reducible exact g.o _)));refine wpQuiet_nil ?_;rintro _ ⟨s,rfl⟩;have X:=(b_ W.o s.below);generalize s.at=p at *;have F:=(JB [n,[105,110],C,[116,111],E] (.slice (some ⟨p.heap.size,0,none⟩) 5 5) (p.alloc (.cells #[n,.string ⟨#[105,110]⟩,C,.string ⟨#[116,111]⟩,E] 9)) (S1.lit p _ rfl 9 _ d_ _ 5 rfl rfl (by simp[m_])) x S);go_wp2_with fail;refine F.mono ?_;rintro e ab ⟨rfl,H⟩;have Z:=(b_ (L_ X _) H);go_wp2;go_ret;refine⟨?_,Z⟩;show Ending.returned (d_ _)=Ending.returned (d_ _);simp[mF]
def uM(c:Cn)(b:FuncId)(hf:XF c.kind=some (.func (.func b) #[] #[]))(hw:(Lit.int .i64 c.kind).wf=true)(o:∀args w,(callFunc b args).run prog w=.ok (.enter b args) w)(i:∀(w:W_)(a d:Nat)(v:V_),Tab w->t_ w KN a 7 XF->CV w v c->z b #[XG a d,v] w λe w'=>e=.returned (d_ (jc c))/\G w w'):LD c:=λw a d v j g hc=>by obtain⟨A,cap,rfl,_,_,_⟩:=hc.form;have f:G w ((w.alloc (.cells #[.map (some a),.map (some d)] 376)).alloc (.cells #[c.kind,d_ c.name,c.lo,c.hi,.slice A c.parts.length cap] 40)):=L_ bA _;have k:=O (i _ a d _ (j.up f) (g.up f) (hc.up f));have h:=(g.up f).look (K:=KN) underlying373 (zeroValue394 _) (x:=c.kind) (wfN _ hw);rw[hf]at h;have m:(Instr.lookup 373 (.map (some a)) (.int .i64 c.kind) false).run prog ((w.alloc (.cells #[.map (some a),.map (some d)] 376)).alloc (.cells #[c.kind,d_ c.name,c.lo,c.hi,.slice A c.parts.length cap] 40))=.ok (.func (.func b) #[] #[]) _:=h;unfold d_ at k m ⊢;go_in;go_wp2_with (go_at_fn b;refine k.o.mono ?_;rintro e n ⟨rfl,l⟩);go_wp2;go_ret;exact⟨rfl,b_ f l⟩
def LG:∀ps:List Cn,(∀p∈ps,(jc p).length+10<=110*p.size)->((ps.map I_).map λs=>s.length+5).sum<=110*Cn.sizes ps
 |[],_=>S
 |p::l,h=>by
  have b:=h p S;(have c:=LG l λq a=>h q (by simp[a]));(have d:(I_ p).length<=(jc p).length+2:=by unfold I_;split<;>simp<;>omega);simp only[ZB,List.sum_cons,Cn.sizes];omega
def BK(c:Cn):FH c->(jc c).length+10<=110*c.size:=by
 refine Cn.ind (P:=λc=>FH c->(jc c).length+10<=110*c.size) (λc0 o d=>?_) c;obtain⟨k,n,l,h,ps⟩:=c0;obtain⟨q,r,e,t,u,_,g,hl1,i,j⟩:=gQ d.own;(have m:∀p∈ps,(jc p).length+10<=110*p.size:=λp f=>o p f (d.part f));simp only[Cn.kind,Cn.parts,Cn.name,Cn.lo,Cn.hi]at q r e t u g hl1 i j;unfold jc;simp only[Cn.size];unfold maxNum at g hl1 i j;split;·simp;omega
 ·split
  ·simp;omega
  ·split
   ·omega
   ·split
    ·simp;omega
    ·split
     ·rw[Ac];have a:=tK [32,97,110,100,32] (ps.map I_);have b:=LG ps m;have c:((ps.map I_).map λs=>s.length+[32,97,110,100,(32:UInt8)].length).sum=((ps.map I_).map λs=>s.length+5).sum:=rfl;omega
     ·split
      ·rename_i v
       have w:=e v
       match ps,w with
       |[p],_=>
        have b:=m p S;(have x:(I_ p).length<=(jc p).length+2:=by unfold I_;split<;>simp<;>omega);rw[Ac];simp only[ZB,List.map_nil,List.headD_cons,lG,p8,MV,Cn.sizes];omega
      ·have a:=ig_ l U U;have b:=ig_ h U U;simp only[lG,p8,MV];omega
def kr{k:Int}{n:St}{l h:Int}:∀{ps:List Cn}{p:Cn},p∈ps->p.size<=Cn.sizes ps
 |q::r,p,a=>by
  simp only[Cn.sizes];rcases jU.1 a with rfl|a;(·omega);·have:=kr (k:=k) (n:=n) (l:=l) (h:=h) a;omega
def XI(c:Cn):FH c->c.size<=5000->LD c:=by
 refine Cn.ind (P:=λc=>FH c->c.size<=5000->LD c) (λc0 q j E=>?_) c;obtain⟨k,n,l,h,ps⟩:=c0;have hf:=gQ j.own;obtain⟨F,H,r,t,I,_,u,hl1,x,y⟩:=hf;simp only[Cn.kind,Cn.parts,Cn.name,Cn.lo,Cn.hi]at F H r t I u hl1 x y;unfold maxNum at u hl1 x y;simp only[Cn.size]at E;(have B:∀p∈ps,p.size<=5000:=λp f=>by have:=kr (k:=k) (n:=n) (l:=l) (h:=h) f;omega);(have m:∀p∈ps,(jc p).length<=600000:=λp f=>by have:=BK p (j.part f);have:=B p f;omega);(have o:∀p∈ps,Z8 p:=λp f=>QU p (q p f (j.part f) (B p f)) (by have:=m p f;omega));have K:k=1\/k=2\/k=3\/k=4\/k=5\/k=6\/k=7:=U;rcases K with rfl|rfl|rfl|rfl|rfl|rfl|rfl;(·(refine uM _ 332 rfl rfl (vW func332 (by kernel_rfl) rfl) λw d e v g i hc=>?_);obtain⟨A,cap,rfl,_⟩:=hc.form;exact Z9 d e _ n l h A _ cap w);(·(refine uM _ 333 rfl rfl (vW func333 (by kernel_rfl) rfl) λw d e v g i hc=>?_);obtain⟨A,cap,rfl,_⟩:=hc.form;exact QV d e _ n l h A _ cap w);(·(refine uM _ 334 rfl rfl (vW func334 (by kernel_rfl) rfl) λw d e v g i hc=>?_);obtain⟨A,cap,rfl,_⟩:=hc.form;exact U2 d e _ n l h A _ cap w);(·(refine uM _ 335 rfl rfl (vW func335 (by kernel_rfl) rfl) λw d e v g i hc=>?_);obtain⟨A,cap,rfl,_⟩:=hc.form;exact N9 d e _ n l h A _ cap w U);·(refine uM _ 336 rfl rfl (vW func336 (by kernel_rfl) rfl) λw d e v g i hc=>?_);have C:=t rfl;(have L:(mF [32,97,110,100,32] (ps.map I_)).length<=1000000000:=by have a:=tK [32,97,110,100,32] (ps.map I_);(have b:=LG ps λp f=>BK p (j.part f));have c:((ps.map I_).map λs=>s.length+[32,97,110,100,(32:UInt8)].length).sum=((ps.map I_).map λs=>s.length+5).sum:=rfl;omega);have:=aac d e 5 n l h ps v w g i hc o U L;rw[<-Ac]at this;unfold jc;exact this
 ·refine uM _ 337 rfl rfl (vW func337 (by kernel_rfl) rfl) λw d e v g i hc=>?_
  have C:=r rfl
  match ps,C,q,o,m,hc with
  |[p],_,_,o,m,hc=>
   (have T:(I_ p).length<=(jc p).length+2:=by unfold I_;split<;>simp<;>omega);have:=XH d e 6 n l h p v w g i hc (o p S) U (by have:=m p S;omega);unfold jc;rw[Ac];exact this
 ·(refine uM _ 338 rfl rfl (vW func338 (by kernel_rfl) rfl) λw d e v g i hc=>?_);obtain⟨A,cap,rfl,_⟩:=hc.form;have:=U3 d e 7 n l h A ps.length cap w g U U U U U;unfold jc;exact this
structure Ad(w:W_):Prop where
 n:Needs w
 t:Tab w
def Ad.up{w w':W_}(h:Ad w)(hb:G w w'):Ad w':=⟨h.n.up hb,h.t.up hb⟩
def y7(c:Cn)(v:V_)(w:W_)(hc:CV w v c)(b:ZQ c)(l:Ad w)(i:r_ c=0):z 291 #[v] w λe w'=>e=.returned (.tuple #[d_ (jc c),V 0])/\G w w':=by
 obtain⟨A,cap,rfl,_,_,_⟩:=hc.form;have y:=jR i;have L:=(jE i).2;have g:G w (w.alloc (.cells #[c.kind,d_ c.name,c.lo,c.hi,.slice A c.parts.length cap] 40)):=bA;have k:=O (oh c _ _ (hc.up g) b (l.n.up g));rw[i]at k;(have P:Hid (∀(W:W_)(d j:Nat),G w W->t_ W KN d 7 XF->z 313 #[.agg #[.map (some d),.map (some j)],.agg #[c.kind,c.name,c.lo,c.hi,.slice A c.parts.length cap]] W λe w'=>e=.returned (d_ (jc c))/\G W w'):=O λW d j s F=>XI c y U W d j _ (l.t.up s) F (hc.up s));have T:=O FD;clear hc b l i y L;unfold d_ at k g;unfold d_;go_in;go_wp2_with fail;refine k.o.mono ?_;rintro e f ⟨rfl,m⟩;have hb:=bk m (f_.new w 40 #[c.kind,c.name,c.lo,c.hi,.slice A c.parts.length cap]);have X:=O (b_ g m);have b:N f w 0 c.kind/\N f w 1 c.name/\N f w 2 c.lo/\N f w 3 c.hi/\N f w 4 (.slice A c.parts.length cap):=⟨hb.cell 0,hb.cell 1,hb.cell 2,hb.cell 3,hb.cell 4⟩
 have B:Hid (∀W a:W_,G W a->(N W w 0 c.kind/\N W w 1 c.name/\N W w 2 c.lo/\N W w 3 c.hi/\N W w 4 (.slice A c.parts.length cap))-> (N a w 0 c.kind/\N a w 1 c.name/\N a w 2 c.lo/\N a w 3 c.hi/\N a w 4 (.slice A c.parts.length cap))):=O λW a H h=>
  have tr:∀(o:Nat)(u:V_),N W w o u->N a w o u:=λo u x=>(H.cell (p:=⟨w.heap.size,o,none⟩) (zy W _ x)).trans x
  ⟨tr _ _ h.1,tr _ _ h.2.1,tr _ _ h.2.2.1,tr _ _ h.2.2.2.1,tr _ _ h.2.2.2.2⟩
 clear hb g m k;go_wp2
 go_region_held3 (λW=>N W w 0 c.kind/\N W w 1 c.name/\N W w 2 c.lo/\N W w 3 c.hi/\N W w 4 (.slice A c.parts.length cap))
  (first|exact b|exact s2|exact s3)
  (first|(go_at_call 312;refine(T.o _).mono ?_;rintro e I ⟨d,j,rfl,C,q⟩;have s2:=B.o _ _ q b;have Z:=O C;have E:Hid (G w I):=O (b_ X.o.drew q);clear C q)|(go_at_call 313;refine(P.o _ _ _ E.o Z.o).mono ?_;rintro e K ⟨rfl,r⟩;have s3:=B.o _ _ r s2;have aa:Hid (G w K):=O (b_ E.o r);clear r)|fail)
 all_goals clear s2 s3 b;go_wp2;go_ret2;exact⟨rfl,aa.o⟩
def Ae{c:Cn}(a:r_ c=0):(jc c).length<=10000:=by have:=BK c (jR a);have:=(jE a).2;omega
def Ei{c:Cn}(a:r_ c=0):c.name.length<=24:=(gQ (jR a).own).2.2.2.2.1
def U4(c:Cn)(v:V_)(w:W_)(hc:CV w v c)(b:ZQ c)(d:Ad w)(f:r_ c=0):z 244 #[v] w λe w'=>e=.returned (d_ (jc c))/\G w w':=by obtain⟨A,cap,rfl,_,_,_⟩:=hc.form;have a:G w (w.alloc (.cells #[c.kind,d_ c.name,c.lo,c.hi,.slice A c.parts.length cap] 40)):=bA;have g:=O (y7 c _ _ (hc.up a) b (d.up a) f);clear hc b d f;unfold d_ at g a;unfold d_;go_in;go_wp2_with fail;refine g.o.mono ?_;rintro e i ⟨rfl,h⟩;go_wp2;go_ret;exact⟨rfl,b_ a h⟩
def wP(n:St)(w:W_)(a:n.length<=1000000):z 197 #[d_ n] w λe w'=>e=.returned (d_ (lV n))/\G w w':=by unfold d_;have b:¬9223372036854775807<1+n.length:=U;have c:¬9223372036854775807<1+n.length+1:=U;go_in;go_wp2;go_ret;refine⟨?_,fD _ _⟩;show Ending.returned (.string ((⟨[123].toArray⟩++⟨n.toArray⟩)++⟨[125].toArray⟩))=_;rw[mO,mO];rfl
def Af(c:Cn)(v:V_)(w:W_)(hc:CV w v c)(k:ZQ c)(l:Ad w)(i:r_ c=0):z 196 #[v] w λe w'=>e=.returned (d_ (j_ c))/\G w w':=by obtain⟨A,cap,rfl,_,_,_⟩:=hc.form;have g:G w (w.alloc (.cells #[c.kind,d_ c.name,c.lo,c.hi,.slice A c.parts.length cap] 40)):=bA;have m:=O (U4 c _ _ (hc.up g) k (l.up g) i);(have n:∀W,z 197 #[c.name] W λe w'=>e=.returned (d_ (lV c.name))/\G W w':=λW=>wP c.name W (by have:=Ei i;omega));have hl:=Ae i;have q:¬9223372036854775807<1+(jc c).length:=U;have r:¬9223372036854775807<1+(jc c).length+1:=U;clear hc k l i hl;unfold d_ at m g;unfold d_;by_cases a:c.kind=1;(·have d:j_ c=jo:=(by unfold j_;rw[A_ a]);have b1:(c.kind==1)=true:=Q a;clear a;go_in;go_wp2;go_ret;exact⟨by rw[d];rfl,g⟩);have b1:(c.kind==1)=false:=Q a;by_cases b:c.kind=2;(·have d:j_ c=iE:=(by unfold j_;rw[u_ a,A_ b]);have b2:(c.kind==2)=true:=Q b;clear a b;go_in;go_wp2;go_ret;exact⟨by rw[d];rfl,g⟩);have b2:(c.kind==2)=false:=Q b;by_cases f:c.kind=3;(·have d:j_ c=c.name:=(by unfold j_;rw[u_ a,u_ b,A_ f]);have b3:(c.kind==3)=true:=Q f;clear a b f;go_in;go_wp2;go_ret;exact⟨by rw[d];rfl,g⟩);have b3:(c.kind==3)=false:=Q f;by_cases h:c.kind=4;(·have d:j_ c=lV c.name:=(by unfold j_;rw[u_ a,u_ b,u_ f,A_ h]);have o:(c.kind==4)=true:=Q h;clear a b f h;go_in;go_wp2_with fail;refine(n _).mono ?_;rintro e p ⟨rfl,j⟩;go_wp2;go_ret;exact⟨by rw[d];rfl,b_ g j⟩);have o:(c.kind==4)=false:=Q h;have d:j_ c=60::jc c++[62]:=(by unfold j_;rw[u_ a,u_ b,u_ f,u_ h]);clear a b f h;go_in;go_wp2_with fail;refine m.o.mono ?_;rintro e p ⟨rfl,j⟩;go_wp2;go_ret;refine⟨?_,b_ g j⟩;rw[d];show Ending.returned (.string ((⟨[60].toArray⟩++⟨(jc c).toArray⟩)++⟨[62].toArray⟩))=_;rw[mO,mO];rfl
end
section
open Go.Maps Go.RowKit Go.Sort Tryz
def t_.atB{P:Program}{k:T_}{a:Type}{K:KK P k a}{b n:Nat}{f:a->Option V_}{w w':W_}(h:t_ w K b n f)(c:w'.heap[b]?=w.heap[b]?):t_ w' K b n f:=by obtain⟨D,⟨d,g,hb,r⟩,e⟩:=h;exact⟨D,⟨d,g,c.trans hb,r⟩,e⟩
structure agi(w:W_)(base:Nat)(vf:St->V_)(g:St->List St):Prop where
 own:∀r,w.ownsRow base 9 1 (vf r) (g r).length ((g r).map d_)
 ap:∀r s,r≠s->(vf r).ownBlock=none\/(vf r).ownBlock≠(vf s).ownBlock
 nil:∀r,g r=[]->vf r=.slice none 0 0
section
variable{w w':W_}{base:Nat}{vf:St->V_}{g:St->List St}
end
end
section
open Go.Maps Go.RowKit Tryz
def fT(n:Int)(acc L:List Pc):List Pc:=L.foldl (λacc p=>if h_ n p∈acc then acc else acc++[h_ n p]) acc
def kK(n:Int)(a L M:List Pc):fT n a (L++M)=fT n (fT n a L) M:=by simp[fT]
def kW(n:Int)(a L:List Pc):a.length<=(fT n a L).length/\(fT n a L).length<=a.length+L.length:=by
 induction L generalizing a with
 |nil=>simp[fT]
 |cons p L c=>
  have h:=c (if h_ n p∈a then a else a++[h_ n p]);have e:fT n a (p::L)=fT n (if h_ n p∈a then a else a++[h_ n p]) L:=rfl;rw[e];split at h<;>rename_i b;(·rw[A_ b];simp;omega);·rw[u_ b];simp at h ⊢;omega
def LH{n:Int}{p q:Pc}(a:p.fA=0)(b:q.fA=0)(h:h_ n p=h_ n q):p=q:=by cases p;cases q;simp[h_]at h a b ⊢;simp[h,a,b]
def FI(n:Int)(L:List Pc)(h:∀p∈L,p.fA=0):fT n [] L=(qz L).map (h_ n):=by
 have key:∀(L a:List Pc),(∀p∈L,p.fA=0)->(∀p∈a,p.fA=0)->fT n (a.map (h_ n)) L=(L.foldl (λa p=>if p∈a then a else a++[p]) a).map (h_ n):=by
  intro L
  induction L with
  |nil=>intro a _ _;rfl
  |cons p L g=>
   intro a d f;have i:=d p S;(have e:h_ n p∈a.map (h_ n)↔p∈a:=by constructor;(·intro c;obtain⟨q,b,e⟩:=pY.1 c;rw[LH i (f q b) e.symm];exact b);·exact List.mem_map_of_mem);rw[fi_];show fT n (if h_ n p∈a.map (h_ n) then _ else _) L=_;by_cases c:p∈a;·rw[A_ (e.2 c),A_ c];exact g a (λq b=>d q (by simp[b])) f
   ·rw[u_ (λh=>c (e.1 h)),u_ c]
    have:=g (a++[p]) (λq b=>d q (by simp[b])) (λq b=>by
     rcases gH.1 b with b|b;·exact f q b
     ·rw[gy.1 b];exact i)
    rw[sJ]at this;exact this
 exact key L [] h (λ_ h=>by cases h)
def Ag(acc:List Pc):Pc->Option V_:=λp=>if p∈acc then some (.bool true) else none
def JD(b:List Pc)(p:Pc):upd (Ag b) p (some (.bool true))=Ag (b++[p]):=by funext x;unfold upd Ag;by_cases h:x=p;(·rw[A_ h,A_ (by simp[h])]);·rw[u_ h];by_cases a:x∈b;(·rw[A_ a,A_ (by simp[a])]);·rw[u_ a,u_ (by simp[a,h])]
def jM(p:Pc):List V_:=(vP p).toList
def mI(p:Pc):(jM p).length=10:=rfl
def wQ(p:Pc):∀u∈jM p,u.oneCell'=true:=by intro u a;simp[jM,vP]at a;rcases a with h|h|h|h|h|h|h|h|h|h<;>subst h<;>rfl
def rJ{W a:W_}{B e size n:Nat}{v:V_}{b:List V_}(h:W.ownsRow B e size v n b)(hb:∀g,v.ownBlock=some g->a.heap[g]?=W.heap[g]?):a.ownsRow B e size v n b:=by refine⟨h.1,?_⟩;rcases h.2 with c|⟨g,cap,i,hv,d,f,r⟩;(·exact .inl c);·exact .inr ⟨g,cap,i,hv,d,(hb g (by rw[hv];rfl)).trans f,r⟩
def Xc(kp mb:Nat)(v:V_)(g:Nat):Prop:=g=kp\/g=mb\/v.ownBlock=some g
structure Col(w:W_)(lo kp mb:Nat)(v:V_)(fA:Int)(acc:List Pc):Prop where
 lok:lo<=kp
 lom:lo<=mb
 ne:kp≠mb
 blk:f_ w kp 213 #[fA,v,.map (some mb)]
 map:t_ w KP mb acc.length (Ag acc)
 row:w.ownsRow lo 146 10 v acc.length (acc.flatMap jM)
 apk:v.ownBlock≠some kp
 apm:v.ownBlock≠some mb
structure kU(kp mb:Nat)(v:V_)(w:W_)(v':V_)(w':W_):Prop where
 aw:Aw (Xc kp mb v) w w'
 up:∀b,v'.ownBlock=some b->b<w.heap.size->v.ownBlock=some b
section
variable{w w' w'':W_}{lo kp mb:Nat}{v v' v'':V_}{fA:Int}{acc:List Pc}
def kU.refl(kp mb:Nat)(v:V_)(w:W_):kU kp mb v w v w:=⟨.refl _ _,λ_ h _=>h⟩
def kU.trans(h:kU kp mb v w v' w')(k:kU kp mb v' w' v'' w''):kU kp mb v w v'' w'':=
 ⟨h.aw.trans k.aw λg c d=>by
  rcases d with e|e|e;(·exact .inl e);·exact .inr (.inl e)
  ·exact .inr (.inr (h.up g e c)),λb hb a=>h.up b (k.up b hb (sK a h.aw.size)) a⟩
def kU.then(h:kU kp mb v w v' w')(k:G w' w''):kU kp mb v w v' w'':=⟨h.aw.then k,h.up⟩
def kU.of(h:G w w'):kU kp mb v w v w':=⟨.of h,λ_ h _=>h⟩
def Col.lt(h:Col w lo kp mb v fA acc){g:Nat}(a:Xc kp mb v g):lo<=g/\g<w.heap.size:=by rcases a with e|e|e;(·rw[e];exact⟨h.lok,h.blk.lt⟩);(·rw[e];exact⟨h.lom,h.map.lt⟩);·exact h.row.lt g e
def Col.at(h:Col w lo kp mb v fA acc)(hb:∀g,Xc kp mb v g->w'.heap[g]?=w.heap[g]?):Col w' lo kp mb v fA acc:=⟨h.lok,h.lom,h.ne,(hb kp (.inl rfl)).trans h.blk,h.map.atB (hb mb (.inr (.inl rfl))),rJ h.row λg a=>hb g (.inr (.inr a)),h.apk,h.apm⟩
def Col.up(h:Col w lo kp mb v fA acc)(hb:G w w'):Col w' lo kp mb v fA acc:=h.at λg a=>hb.block g (h.lt a).2
def Col.low(h:Col w lo kp mb v fA acc)(k:kU kp mb v w v' w'):Below lo w w':=k.aw.below (gT h.lok (fh_ h.blk.lt)) λg b a=>by have:=(h.lt a).1;omega
def Col.snoc(h:Col w lo kp mb v fA acc){p:Pc}{n:Nat}{r:List V_}{l m c:W_}(s:t_ l KP mb (acc.length+1) (upd (Ag acc) p (some (.bool true))))(j:w.grownBy l (some mb))(f:G l m)(t:n=acc.length+1)(k:r=acc.flatMap jM++jM p)(A:c.ownsRow lo 146 10 v' n r)(i:m.grownBy c v.ownBlock)(q:v'.ownBlock=v.ownBlock\/v'.ownBlock=some m.heap.size):Col (c.setCell ⟨kp,1,none⟩ v') lo kp mb v' fA (acc++[p])/\kU kp mb v w v' (c.setCell ⟨kp,1,none⟩ v'):=by have B:=h.blk.lt;have C:=h.map.lt;have s1:=j.size;have s2:=f.size;have s3:=i.size;(have nk:some kp≠v.ownBlock:=λe=>h.apk e.symm);(have u:some mb≠v.ownBlock:=λe=>h.apm e.symm);(have apk:v'.ownBlock≠some kp:=by rcases q with e|e;(·rw[e];exact h.apk);·rw[e];intro d;injection d with d;omega);(have apm:v'.ownBlock≠some mb:=by rcases q with e|e;(·rw[e];exact h.apm);·rw[e];intro d;injection d with d;omega);have b3:f_ c kp 213 #[fA,v,.map (some mb)]:=((h.blk.grown j (by intro e;injection e with e;exact h.ne e)).below f).grown i nk;refine⟨⟨h.lok,h.lom,h.ne,?_,?_,?_,apk,apm⟩,⟨⟨?_,?_,?_,?_,?_⟩,?_⟩⟩;(·exact b3.iK 1 v');(·rw[JD]at s;have:=((s.up f).kept i u).setCell (a:=⟨kp,1,none⟩) (λe=>h.ne e.symm) v';simpa using this);(·subst t k;have:=A;(refine rJ (W:=c) ?_ λg o=>D8 c _ v' g (λe=>apk (by rw[o];rw[show g=kp from e])));simpa[jM]using this);(·exact i.os.trans (f.os.trans j.os));(·exact i.tape.trans (f.tape.trans j.tape));(·exact i.output.trans (f.output.trans j.output));(·simp;omega);(·intro g o k;(have x:g≠kp:=λe=>k (.inl e));(have d:g≠mb:=λe=>k (.inr (.inl e)));(have y:some g≠v.ownBlock:=λe=>k (.inr (.inr e.symm)));rw[D8 c ⟨kp,1,none⟩ v' g x,i.block g U y,f.block g U,j.block g o (by intro e;injection e with e;exact d e)]);·intro b hb E;rcases q with e|e;(·rw[<-e];exact hb);·rw[e]at hb;injection hb with hb;omega
end
def FJ:(prog.info? 146).map (λi=>(i.zero,i.size,i.bytes))=some (some (.agg (vP ⟨0,[],[],[],[],[],[],0,0,0⟩)),10,128):=by kernel_rfl
def tN(n:Int)(w:W_):z 137 #[n] w λe w'=>e=.returned (.pointer (some ⟨w.heap.size+1,0,none⟩))/\Col w' w.heap.size (w.heap.size+1) w.heap.size (.slice none 0 0) n []/\G w w':=by have b:= @run_makeMap prog;(have a:∀W:W_,Col ((W.alloc (.map #[] 0)).alloc (.cells #[n,.slice none 0 0,.map (some W.heap.size)] 213)) W.heap.size (W.heap.size+1) W.heap.size (.slice none 0 0) n []:=λW=>⟨U,U,U,f_.newAt _ _ _ S,((t_.made W KP).alloc _).congr λx _=>by simp[Ag],Ba _ _ _ _,by simp[Value.ownBlock],by simp[Value.ownBlock]⟩);go_in;go_wp2;go_ret;exact⟨S,a w,L_ bA _⟩
def abW(k l h f:Int)(a b c r s t:St):(#[k,d_ a,d_ b,d_ c,d_ r,d_ s,d_ t,l,h,f]:Array V_).all (·.oneCell')=true:=by simp[Value.oneCell']
def abX:(prog.info? 146).map (·.size)=some 10:=by kernel_rfl
def JE{w:W_}{b n:Nat}{d:List Pc}(h:t_ w KP b n (Ag d)){q:Pc}(e:WC q){c:Bool}(hc:decide (q∈d)=c):(Instr.lookup 211 (.map (some b)) (.agg (vP q)) false).run prog w=.ok (.bool c) w:=by have:=h.look (K:=KP) underlying211 (zeroValue4 w) (x:=q) e;unfold Ag at this;by_cases a:q∈d;(·rw[A_ a]at this;rw[<-hc,Dx a];exact this);·rw[u_ a]at this;rw[<-hc,yR a];exact this
def U6{n:Int}{a L:List Pc}{k:Nat}{p:Pc}(h:L[k]?=some p):fT n a (L.take (k+1))=if h_ n p∈fT n a (L.take k) then fT n a (L.take k) else fT n a (L.take k)++[h_ n p]:=by obtain⟨b,e⟩:=iR.1 h;rw[Ht b,e,kK];rfl
def gZ{W:W_}{g:Nat}{q:Pc}(h:f_ W g 146 (vP q)):N W g 0 q.kind/\N W g 1 q.A/\N W g 2 q.B/\N W g 3 q.C/\ N W g 4 q.R/\N W g 5 q.S/\N W g 6 q.T/\N W g 7 q.lo/\N W g 8 q.hi/\N W g 9 q.fA:=⟨h.cell 0,h.cell 1,h.cell 2,h.cell 3,h.cell 4,h.cell 5,h.cell 6,h.cell 7,h.cell 8,h.cell 9⟩
def abY(W:W_)(q:Pc):Rd (W.alloc (.cells #[q.kind,d_ q.A,d_ q.B,d_ q.C,d_ q.R,d_ q.S,d_ q.T,q.lo,q.hi,q.fA] 146)) jM 10 (.slice (some ⟨W.heap.size,0,none⟩) 1 1) [q]:=
 ⟨_,1,rfl,fU _,by simp[m_],λ_=>⟨_,0,rfl,S,λi x hi j y a=>by
   (obtain rfl:i=0:=by have:=(iR.1 hi).1;simp at this;omega);injection hi with hi;subst hi;have:=(f_.new W 146 (vP q)).cell (0+0*10+j);rw[show 0+0*10+j=j by omega]at this ⊢;rw[this,<-a]
   simp[jM]⟩⟩
def Col.drew'{w:W_}{lo kp a:Nat}{v:V_}{fA:Int}{b:List Pc}(h:Col w lo kp a v fA b):Col w.drew lo kp a v fA b:=h.up (fD _ _).drew
def kU.drew'{kp a:Nat}{v v':V_}{w w':W_}(h:kU kp a v w.drew v' w'):kU kp a v w v' w':=(kU.of (fD _ _).drew).trans h
def xK(lo kp mb:Nat)(v:V_)(fA:Int)(acc L:List Pc)(w:W_)(e:Ending)(w':W_):Prop:=e=.returned (.tuple #[])/\∃v',Col w' lo kp mb v' fA (fT fA acc L)/\kU kp mb v w v' w'
def aad(L:List Pc)(u:V_)(w:W_)(lo kp f:Nat)(v:V_)(fA:Int)(y:List Pc)(az:Col w lo kp f v fA y)(P:Rd w jM 10 u L)(aA:∀a n c,u=.slice (some a) n c->0<n->¬Xc kp f v a.block)(aE:∀p∈L,WC (h_ fA p))(bB:y.length+L.length<=1000000):z 195 #[.pointer (some ⟨kp,0,none⟩),u] w (xK lo kp f v fA y L w):=by obtain⟨A,c,rfl,hc,a7,aB⟩:=P.form;have a8:=O aB;have bm:=O aA;have bn:=O aE;have a':=O az;obtain⟨ba,bo,bp,bq,br⟩:=qV FJ;go_in;go_wp2;go_loopw [8] (λi wr=>∃(k:Nat)(g:V_),k<=L.length/\i=.int .i64 (k:Int)/\Hid (Col wr lo kp f g fA (fT fA y (L.take k)))/\Hid (kU kp f v w g wr)) (λi _=>L.length-(intOf i).toNat);exact⟨0,v,gL _,rfl,a',O (.refl _ _ _ _)⟩;obtain⟨k,g,bb,rfl,E,X⟩:=hrel;by_cases bs:k<L.length;(·obtain⟨b,m,rfl,hb,a6⟩:=a8.o U;obtain⟨p,ak⟩:=g_ bs;have aF:¬Xc kp f v b:=bm.o _ _ _ rfl U;(have key:∀(j:Nat) z,(jM p)[j]?=some z->N wr b (m+k*10+j) z:=λj z bc=>X.o.aw.cell (a6 k p ak j z bc) aF);have a0:N wr b (m+k*10) p.kind:=key 0 _ rfl;have a1:N wr b (m+k*10+1) p.A:=key 1 _ rfl;have a2:N wr b (m+k*10+2) p.B:=key 2 _ rfl;have a3:N wr b (m+k*10+3) p.C:=key 3 _ rfl;have a4:N wr b (m+k*10+4) p.R:=key 4 _ rfl;have a5:N wr b (m+k*10+5) p.S:=key 5 _ rfl;have bd:N wr b (m+k*10+6) p.T:=key 6 _ rfl;have be:N wr b (m+k*10+7) p.lo:=key 7 _ rfl;have bf:N wr b (m+k*10+8) p.hi:=key 8 _ rfl;have a9:N wr b (m+k*10+9) p.fA:=key 9 _ rfl;have aC:=O ak;have r1:(0:Int)<=(k:Int):=U;have bC:(k:Int)<(L.length:Int):=U;go_wp2_with (refine z_ rfl 146 _ _ rfl wr.heap.size 146 _ (f_.new _ _ _) (vP p) rfl rfl rfl abX (abW ..) ?_);intro t ah aG aH;have ao:G wr t:=bA.grown aG S (λj bg=>by injection bg with e;omega);have aI:=O (E.o.up ao);have c0:N t kp 0 fA:=aI.o.blk.cell 0;have bh:N t wr 9 p.fA:=ah.cell 9;have z9:t.frozen? ⟨wr.heap.size,9,none⟩=false:=ah.frozen 9;have bI:kp<wr.heap.size:=E.o.blk.lt;have bJ:f<wr.heap.size:=E.o.map.lt;have aJ:=O ah;have aX:t.heap.size=wr.heap.size+1:=Q aH;have aK:=O ao;go_wp2_with fail;have I:=O (aJ.o.iK 9 (.int .i64 fA));have ap:G wr (t.setCell ⟨wr.heap.size,9,none⟩ (.int .i64 fA)):=aK.o.setCell (fU _) _;have F:=O (E.o.up ap);have aq:=O (X.o.then ap);have aL:(t.setCell ⟨wr.heap.size,9,none⟩ (.int .i64 fA)).heap.size=wr.heap.size+1:=Q aX;generalize t.setCell ⟨wr.heap.size,9,none⟩ (.int .i64 fA)=d at *;obtain⟨q,Z⟩:=e_ (h_ fA p);(have l:f_ d wr.heap.size 146 (vP q):=by rw[<-Z];exact I.o);obtain⟨r,ai⟩:=e_ (fT fA y (L.take k));rw[ai]at F;(have ar:WC q:=by rw[<-Z];exact bn.o p (gM aC.o));have aD:Hid (fT fA y (L.take (k+1))=if q∈r then r else r++[q]):=O (by rw[U6 aC.o,ai,Z]);(have bO:r.length<=y.length+k:=by rw[<-ai];have:=(kW fA y (L.take k)).2;rw[qg,fg_ bb]at this;exact this);have bt:=O ar;obtain⟨al,au⟩:=e_ (decide (q∈r));(have bi:∀nq,(Instr.lookup 211 (.map (some f)) (.agg #[q.kind,q.A,q.B,q.C,q.R,q.S,q.T,q.lo,q.hi,q.fA]) false).run prog (d.drewN nq)=.ok (.bool al) (d.drewN nq):=λnq=>JE (F.o.map.drewN nq) ar au);(have aY:q∈r↔al=true:=by rw[<-au];simp);have aM:=O aY;have am:N d kp 2 (.map (some f)):=F.o.blk.cell 2;have aa:N d wr 0 q.kind:=l.cell 0;have b1:N d wr 1 q.A:=l.cell 1;have b2:N d wr 2 q.B:=l.cell 2;have b3:N d wr 3 q.C:=l.cell 3;have ab:N d wr 4 q.R:=l.cell 4;have ac:N d wr 5 q.S:=l.cell 5;have ad:N d wr 6 q.T:=l.cell 6;have ae:N d wr 7 q.lo:=l.cell 7;have af:N d wr 8 q.hi:=l.cell 8;have ag:N d wr 9 q.fA:=l.cell 9;have I:=O l;go_quiet (fail);cases al;(·go_wp2_with fail;have s:Hid (Col (d.drewN nq) lo kp f g fA r):=O (F.o.up (nJ (fD _ _) _));have bu:Hid (kU kp f v w g (d.drewN nq)):=O (aq.o.then (nJ (fD _ _) _));have aN:Hid (f_ (d.drewN nq) wr.heap.size 146 (vP q)):=O (I.o.drewN nq);have bK:(d.drewN nq).heap.size=wr.heap.size+1:=aL;generalize d.drewN nq=an at *;obtain⟨aa,b1,b2,b3,ab,ac,ad,ae,af,ag⟩:=gZ aN.o;have am:N an kp 2 (.map (some f)):=s.o.blk.cell 2;obtain⟨w5,aO,aP,aQ⟩:=(s.o.map.drew).put (K:=KP) underlying211 (by simp only[m_];omega) bt.o (.bool true);have bv:(Instr.mapUpdate 211 (.map (some f)) (.agg #[q.kind,q.A,q.B,q.C,q.R,q.S,q.T,q.lo,q.hi,q.fA]) (.bool true)).run prog an.drew=.ok () w5:=aO;have aR:=O aP;have H:=O aQ;go_region;have aS:f_ w5 wr.heap.size 146 (vP q):=aN.o.drew.grown H.o (by intro e;injection e with e;omega);have av:f_ w5 kp 213 #[fA,g,.map (some f)]:=s.o.blk.drew.grown H.o (by intro e;injection e with e;exact s.o.ne e);(have bL:wr.heap.size+1<=w5.heap.size:=by have:=H.o.size;simp at this;omega);obtain⟨aa,b1,b2,b3,ab,ac,ad,ae,af,ag⟩:=gZ aS;have bD:N w5 kp 1 g:=av.cell 1;have bw:Hid (w5.ownsRow lo 146 10 g r.length (r.flatMap jM)):=O (World.ownsRow.kept (w:=an.drew) s.o.row H.o (.inr s.o.apm));(have aT:Hid (∀(o:Obj)(W:W_),(w5.alloc o).drew.grownBy W g.ownBlock->N W kp 1 g/\W.frozen? ⟨kp,1,none⟩=false):=O λo W bj=>have h:=((av.alloc o).drew.grown bj (λe=>s.o.apk e.symm):f_ W kp 213 #[fA,g,.map (some f)]);⟨h.cell 1,h.frozen 1⟩);(have bM:lo<=w5.heap.size:=by have:=s.o.lok;omega);have bP:kp<w5.heap.size:=av.lt;have bN:r.length+1<=1000000:=U;go_wp2;go_region_law ((refine gX _ jM rfl (.tmp 33) (.tmp 35) 140 rfl lo 146 ba (.agg (vP ⟨0,[],[],[],[],[],[],0,0,0⟩)) 10 128 underlying140 bo bp bq br rfl D _ _ _ rfl (bw.o.alloc _) _ _ [q] mI rfl (abY w5 q) (λx _ u P=>wQ x u P) (by(simp only[m_,zC];omega)) (by(simp only[zC];omega)) (by(simp;omega)) ?_;intro bE bF ay aj aZ;obtain⟨bG,bH,rfl⟩:=o_ ay;have bk:=(aT.o _ _ aj).1;have bl:=(aT.o _ _ aj).2;have aU:=O ay;have aV:=O aj;have aW:=O aZ;clear ay aj aZ));all_goals clear bk bl;have ax:=s.out.drew'.snoc aR.out H.out ((L_ (fD _ _) _).drew) rfl S aU.out aV.out aW.out;have bx:=O ax.1;have bz:=O (bu.o.trans (kU.drew' ax.2));go_wp2;go_roundw;exact⟨k+1,_,U,R,O (by rw[aD.o,u_ (λh=>by have:=aM.o.1 h;simp at this)];exact bx.o),bz⟩;exact M);·go_wp2;go_roundw;exact⟨k+1,g,U,R,O (by rw[aD.o,A_ (aM.o.2 rfl)];exact F.o.up (nJ (fD _ _) _)),O (aq.o.then (nJ (fD _ _) _))⟩;exact M);·(obtain rfl:k=L.length:=by omega);go_wp2;go_end0;exact⟨rfl,g,by have:=E.o;rwa[jh]at this,X.o⟩
def jA(c:Cn):r_ c=0↔Jc c/\FH c:=by
 constructor;·intro h;refine⟨?_,jR h⟩;unfold r_ at h;split at h;(·assumption);·cases h
 ·rintro⟨b,e⟩
  unfold r_;rw[A_ b]
  have key:∀l:List Cn,(∀d∈l,fI d=0)->jF l=0:=by
   intro l
   induction l with
   |nil=>intro _;rfl
   |cons a l f=>
    intro h;unfold jF;rw[u_ (Q (h a S))];exact f λd g=>h d (by simp[g])
  exact key _ e
def iC{c p:Cn}(h:r_ c=0)(a:p∈c.parts):r_ p=0:=by obtain⟨⟨b,e⟩,d⟩:=(jA c).1 h;refine(jA p).2 ⟨⟨?_,?_⟩,d.part a⟩;(·have:=EO a;rw[KO]at b;omega);·have:=Cn.kr a;omega
def y8(ps:List Cn):Cn:= .mk 5 [] 0 0 ps
def mP{c:Cn}{k:Nat}(h:r_ c=0)(j:c.kind=5)(u:2<=k)(hl:k<=c.parts.length):r_ (y8 (c.parts.take k))=0:=by
 obtain⟨⟨f,m⟩,g⟩:=(jA c).1 h;(have i:∀p∈c.parts.take k,p∈c.parts:=λp e=>Qc e);have v:=((gQ g.own).2.2.2.1 j).2;refine(jA _).2 ⟨⟨?_,?_⟩,?_⟩;(·rw[KO]at f ⊢;exact M8 λp e=>gT (EO (i p e)) f);·rw[size_eq]at m ⊢;have:=mE c.parts k;show Cn.sizes (c.parts.take k)+1<=64;omega
 ·intro d b
  rw[pre_eq]at b;rcases jU.1 b with rfl|b;·unfold fI;have n:(y8 (c.parts.take k)).kind=5:=rfl;have o:(y8 (c.parts.take k)).parts=c.parts.take k:=rfl;have q:(y8 (c.parts.take k)).name=[]:=rfl;have r:(y8 (c.parts.take k)).lo=0:=rfl;have s:(y8 (c.parts.take k)).hi=0:=rfl;rw[n,o,q,r,s];simp[jW,mD,gY,qg];omega
  ·have key:∀l:List Cn,(∀p∈l,p∈c.parts)->d∈Cn.jV l->fI d=0:=by
    intro l
    induction l with
    |nil=>intro _ h;cases h
    |cons a l t=>
     intro hl b;simp only[Cn.jV]at b;rcases gH.1 b with b|b;(·exact g.part (hl a S) d b);·exact t (λp e=>hl p (by simp[e])) b
   exact key _ i b
def iD{c:Cn}(a:r_ c=0):(j_ c).length<=20000:=by have b:=Ae a;have d:=Ei a;unfold j_;split;(·decide);split;(·decide);split;(·omega);split;(·simp[lV];omega);·simp;omega
structure Tx(p:Pc):Prop where
 k:0<=p.kind/\p.kind<=100
 a:p.A.length<=100000
 b:p.B.length<=100000
 c:p.C.length<=100000
 r:p.R.length<=100000
 s:p.S.length<=100000
 t:p.T.length<=100000
 lo: -maxNum<=p.lo/\p.lo<=maxNum
 hi: -maxNum<=p.hi/\p.hi<=maxNum
def tO{x:Int}(h: -maxNum<=x/\x<=maxNum):(Lit.int .i64 x).wf=true:=by unfold maxNum at h;simp only[Lit.wf,KJ,I5];have a:IntKind.i64.min= -9223372036854775808:=D;have b:IntKind.i64.max=9223372036854775807:=D;rw[a,b];omega
def Tx.ok{p:Pc}(h:Tx p){n:Int}(d: -1<=n/\n<=100000):WC (h_ n p):=by have e:=h.k;(have m:(100000:Nat)<=m_:=by simp[m_]);exact⟨tO (by unfold maxNum;constructor<;>(show _<=_;simp only[h_];omega)),gT h.a m,gT h.b m,gT h.c m,gT h.r m,gT h.s m,gT h.t m,tO h.lo,tO h.hi,tO (by unfold maxNum;constructor<;>(show _<=_;simp only[h_];omega))⟩
def jr:maxNum=1099511627776:=rfl
def JF{a c:St}(b:a.length<=100000)(hc:c.length<=100000):Tx (kP a c):=by constructor<;>simp[kP,jr]<;>assumption
def abf{a b c:St}(d:a.length<=100000)(hb:b.length<=100000)(hc:c.length<=100000):Tx (vL a b c):=by constructor<;>simp[vL,jr]<;>assumption
def XJ{a r c:St}(b:a.length<=100000)(d:r.length<=100000)(hc:c.length<=100000):Tx (ng a r c):=by constructor<;>simp[ng,jr]<;>assumption
def XK{r a c:St}(b:r.length<=100000)(d:a.length<=100000)(hc:c.length<=100000):Tx (ni r a c):=by constructor<;>simp[ni,jr]<;>assumption
def abZ{r t:St}(a:r.length<=100000)(b:t.length<=100000):Tx (rF r t):=by constructor<;>simp[rF,jr]<;>assumption
def aae{r s t:St}(a:r.length<=100000)(b:s.length<=100000)(c:t.length<=100000):Tx (jy r s t):=by constructor<;>simp[jy,jr]<;>assumption
def ab0{r:St}(a:r.length<=100000):Tx (oP r):=by constructor<;>simp[oP,jr]<;>assumption
def afD{a r:St}{lo hi:Int}(d:a.length<=100000)(e:r.length<=100000)(b: -maxNum<=lo/\lo<=maxNum)(c: -maxNum<=hi/\hi<=maxNum):Tx (Tk a r lo hi):=by rw[jr]at b c;constructor<;>simp[Tk,jr]<;>first|assumption|omega
def adR{r c:St}{lo hi:Int}(d:r.length<=100000)(hc:c.length<=100000)(a: -maxNum<=lo/\lo<=maxNum)(b: -maxNum<=hi/\hi<=maxNum):Tx (zU r lo hi c):=by rw[jr]at a b;constructor<;>simp[zU,jr]<;>first|assumption|omega
def U7(f:St)(d l:List Cn):(wF f d l).length=l.length:=by
 induction l generalizing f d with
 |nil=>rfl
 |cons a l b=>simp[wF,b]
def BL(c:Cn)(d:r_ c=0):(iF c).length<=16*c.size:=by
 induction c using Cn.ind with
 |h c e=>
  have f:∀ps:List Cn,(∀p∈ps,(iF p).length<=16*p.size)->(iB ps).length<=16*Cn.sizes ps:=by
   intro ps
   induction ps with
   |nil=>intro _;simp[iB]
   |cons a l i=>
    intro h;have j:=h a S;(have m:=i λp b=>h p (by simp[b]));simp only[iB,Cn.sizes,lG];omega
  (have hl:=f c.parts λp b=>e p b (iC d b));have hf:=gQ ((jA c).1 d).2.own;obtain⟨k,n,l,g,ps⟩:=c;simp only[Cn.parts,Cn.kind]at *;simp only[iF,Cn.size];split
  ·have:=(hf.2.2.2.1 ‹_›).2
   cases ps with
   |nil=>simp[iB]
   |cons a r=>
    simp only[lG,U7];simp at this;omega
  split;(·simp;omega);split;(·simp;omega);·simp
def FL(c:Cn)(e:r_ c=0):(fV c).length<=16*c.size:=by
 induction c using Cn.ind with
 |h c f=>
  have i:∀(a:St)(ps:List Cn),(∀p∈ps,(fV p).length<=16*p.size)->(iA a ps).length<=16*Cn.sizes ps+ps.length/\(lW ps).length<=16*Cn.sizes ps:=by
   intro a ps
   induction ps with
   |nil=>intro _;simp[iA,lW]
   |cons b l j=>
    intro h;have m:=h b S;(have o:=j λp d=>h p (by simp[d]));simp only[iA,lW,Cn.sizes,lG,p8];omega
  (have hl:=λa=>i a c.parts λp d=>f p d (iC e d));have hf:=gQ ((jA c).1 e).2.own;obtain⟨k,n,l,g,ps⟩:=c;simp only[Cn.parts,Cn.kind]at *;simp only[fV,Cn.size];split;(·have:=(hf.2.2.2.1 ‹_›).2;have:=(hl (j_ (.mk k n l g ps))).1;omega);split;(·have:=(hl []).2;simp;omega);split;(·simp;omega);·simp
section
variable{kp mb:Nat}{v v':V_}{w w':W_}
def kU.nx(h:kU kp mb v w v' w'){g:Nat}(a:g<w.heap.size)(b:¬Xc kp mb v g):¬Xc kp mb v' g:=λe=>b (by
 rcases e with e|e|e;(·exact .inl e);·exact .inr (.inl e)
 ·exact .inr (.inr (h.up g e a)))
def kU.cell(h:kU kp mb v w v' w'){g o:Nat}{u:V_}(hc:N w g o u)(a:¬Xc kp mb v g):N w' g o u:=h.aw.cell hc a
def kU.blk(h:kU kp mb v w v' w'){g:Nat}{t:T_}{a:Array V_}(hc:f_ w g t a)(b:¬Xc kp mb v g):f_ w' g t a:=h.aw.blk hc b
end
def Col.fresh{w:W_}{lo kp mb:Nat}{v:V_}{fA:Int}{a:List Pc}(h:Col w lo kp mb v fA a){g:Nat}(b:w.heap.size<=g):¬Xc kp mb v g:=λe=>by have:=(h.lt e).2;omega
def add_one{w W:W_}{lo kp mb:Nat}{v:V_}{fA:Int}{b:List Pc}(d:Col w lo kp mb v fA b)(f:G w W)(p:Pc)(i:Tx p)(hf: -1<=fA/\fA<=100000)(m:b.length<=100000):
 z 195 #[.pointer (some ⟨kp,0,none⟩),.slice (some ⟨W.heap.size,0,none⟩) 1 1] (W.alloc (.cells #[p.kind,d_ p.A,d_ p.B,d_ p.C,d_ p.R,d_ p.S,d_ p.T,p.lo,p.hi,p.fA] 146))
  λe w'=>e=.returned (.tuple #[])/\∃v',Col w' lo kp mb v' fA (fT fA b [p])/\kU kp mb v w v' w':=by
 have g:=L_ f (.cells #[p.kind,d_ p.A,d_ p.B,d_ p.C,d_ p.R,d_ p.S,d_ p.T,p.lo,p.hi,p.fA] 146)
 refine(aad [p] _ _ lo kp mb v fA b (d.up g) (abY W p) (λa n c e h=>?_) (λq j=>by rw[gy.1 j];exact i.ok hf) (by simp;omega)).mono ?_
 ·injection e with e _ _;injection e with e;rw[<-e];exact d.fresh f.size
 ·rintro e w' ⟨rfl,v',k,l⟩;exact⟨rfl,v',k,(kU.of g).trans l⟩
abbrev Ah(pk pl:Nat):V_:= .func (.func 242) #[] #[.pointer (some ⟨pl,0,none⟩),.pointer (some ⟨pk,0,none⟩)]
abbrev Ai(pk pr:Nat):V_:= .func (.func 243) #[] #[.pointer (some ⟨pk,0,none⟩),.pointer (some ⟨pr,0,none⟩)]
structure pF(w:W_)(kp mb:Nat)(v:V_)(pk pl pr:Nat):Prop where
 k:N w pk 0 (.pointer (some ⟨kp,0,none⟩))
 l:N w pl 0 (Ah pk pl)
 r:N w pr 0 (Ai pk pr)
 nk:¬Xc kp mb v pk
 nl:¬Xc kp mb v pl
 nr:¬Xc kp mb v pr
section
variable{w w':W_}{kp mb pk pl pr:Nat}{v v':V_}
def pF.lt(h:pF w kp mb v pk pl pr):pk<w.heap.size/\pl<w.heap.size/\pr<w.heap.size:=⟨zy w _ h.k,zy w _ h.l,zy w _ h.r⟩
def pF.to(h:pF w kp mb v pk pl pr)(k:kU kp mb v w v' w'):pF w' kp mb v' pk pl pr:=⟨k.cell h.k h.nk,k.cell h.l h.nl,k.cell h.r h.nr,k.nx h.lt.1 h.nk,k.nx h.lt.2.1 h.nl,k.nx h.lt.2.2 h.nr⟩
def pF.up(h:pF w kp mb v pk pl pr)(k:G w w'):pF w' kp mb v pk pl pr:=h.to (.of k)
end
def FM{P:Program}{c:Func}{p q:Tmp}{d e:T_}(h:c.results= #[.cell p d,.cell q e])(tmps:Array V_)(w:W_){a b:Addr}{u v:V_}(f:tmps.getD p undef=.pointer (some a))(g:tmps.getD q undef=.pointer (some b))(hl:(loadVar d a).run P w=.ok u w)(i:(loadVar e b).run P w=.ok v w):(results c tmps).run P w=.ok (.tuple #[u,v]) w:=by have j:tmps[p]?.getD undef=.pointer (some a):=Q f;have k:tmps[q]?.getD undef=.pointer (some b):=Q g;simp[results,h,j,k,asAddr,hl,i]
def XL{w:W_}{a:Addr}{v:V_}(h:w.cell? a=some v):(loadVar 126 a).run prog w=.ok v w:=by simp[loadVar,h]
def U8(w:W_)(lo kp mb:Nat)(v:V_)(fA:Int)(k:List Pc)(d:Col w lo kp mb v fA k):
 z 194 #[.pointer (some ⟨kp,0,none⟩)] w λe w'=>
  e=.returned (.tuple #[Ah w.heap.size (w.heap.size+1),Ai w.heap.size (w.heap.size+2)])/\pF w' kp mb v w.heap.size (w.heap.size+1) (w.heap.size+2)/\G w w':=by
 have c:∀g,w.heap.size<=g->¬Xc kp mb v g:=λg h=>d.fresh h
 clear d
 go_in
 go_wp2_with fail
 obtain⟨a,b⟩:∃a,(((w.alloc (.cells #[.pointer (some ⟨kp,0,none⟩)] 208)).alloc (.cells #[Ah w.heap.size (w.heap.size+1)] 126)).alloc (.cells #[Ai w.heap.size (w.heap.size+1+1)] 126))=a:=⟨_,rfl⟩
 have i:f_ a w.heap.size 208 #[.pointer (some ⟨kp,0,none⟩)]:=by rw[<-b];exact((f_.new _ _ _).alloc _).alloc _
 have b1:f_ a (w.heap.size+1) 126 #[Ah w.heap.size (w.heap.size+1)]:=by rw[<-b];exact(f_.newAt _ _ _ S).alloc _
 have b2:f_ a (w.heap.size+1+1) 126 #[Ai w.heap.size (w.heap.size+1+1)]:=by rw[<-b];exact f_.newAt _ _ _ S
 have l:G w a:=by rw[<-b];exact L_ (L_ bA _) _
 have c1:N a (w.heap.size+1) 0 (Ah w.heap.size (w.heap.size+1)):=b1.cell 0
 have c2:N a (w.heap.size+1+1) 0 (Ai w.heap.size (w.heap.size+1+1)):=b2.cell 0
 have j:a.frozen? ⟨w.heap.size+1,0,none⟩=false:=b1.frozen 0
 have z2:a.frozen? ⟨w.heap.size+1+1,0,none⟩=false:=b2.frozen 0
 rw[b]
 clear b
 go_region
 all_goals clear c1 c2 j z2;have m:=((((i.far (p:=⟨w.heap.size+1,0,none⟩) S (Ah w.heap.size (w.heap.size+1))).far (p:=⟨w.heap.size+1+1,0,none⟩) (by simp;omega) (Ai w.heap.size (w.heap.size+1+1)))).drew);have n:=(((b1.iK 0 (Ah w.heap.size (w.heap.size+1))).far (p:=⟨w.heap.size+1+1,0,none⟩) S (Ai w.heap.size (w.heap.size+1+1))).drew);have o:=(((b2.far (p:=⟨w.heap.size+1,0,none⟩) S (Ah w.heap.size (w.heap.size+1))).iK 0 (Ai w.heap.size (w.heap.size+1+1))).drew);have q:=((P5 (P5 l (p:=⟨w.heap.size+1,0,none⟩) S (Ah w.heap.size (w.heap.size+1))) (p:=⟨w.heap.size+1+1,0,none⟩) (by simp;omega) (Ai w.heap.size (w.heap.size+1+1))).drew);generalize ((a.setCell ⟨w.heap.size+1,0,none⟩ (Ah w.heap.size (w.heap.size+1))).setCell ⟨w.heap.size+1+1,0,none⟩ (Ai w.heap.size (w.heap.size+1+1))).drew=f at *;have c1:N f (w.heap.size+1) 0 (Ah w.heap.size (w.heap.size+1)):=n.cell 0;have c2:N f (w.heap.size+1+1) 0 (Ai w.heap.size (w.heap.size+1+1)):=o.cell 0;go_wp2_with fail;(try simp only[Exit.inBlock,Exit.then]);refine qW (FM rfl _ _ rfl rfl (XL c1) (XL c2)) rfl ?_;exact⟨rfl,⟨m.cell 0,c1,c2,c _ U,c _ U,c _ U⟩,q⟩
def Ob(L:List St)(u:V_)(w:W_)(lo kp mb:Nat)(v:V_)(fA:Int)(d:List Pc)(j:Col w lo kp mb v fA d)(l:lg w u L)(y:∀a n c,u=.slice (some a) n c->0<n->¬Xc kp mb v a.block)(hl:∀s∈L,s.length<=100000)(hf: -1<=fA/\fA<=100000)(ac:d.length+L.length<=100000):z 232 #[.pointer (some ⟨kp,0,none⟩),u] w (xK lo kp mb v fA d (L.map O_) w):=by
 obtain⟨A,c,rfl,hc,B,C⟩:=S1.form l;have E:=O j;clear l j hc B;go_in;go_wp2;go_loopw [8] (λi wr=>∃(k:Nat)(f:V_),k<=L.length/\i=.int .i64 (k:Int)/\Hid (Col wr lo kp mb f fA (fT fA d ((L.take k).map O_)))/\Hid (kU kp mb v w f wr)) (λi _=>L.length-(intOf i).toNat);exact⟨0,v,gL _,rfl,E,O (.refl _ _ _ _)⟩;obtain⟨k,f,F,rfl,m,h⟩:=hrel;by_cases T:k<L.length
 ·obtain⟨b,X,rfl,hb,x⟩:=C U
  obtain⟨s,g⟩:=g_ T;have o:¬Xc kp mb v b:=y _ _ _ rfl U;have ad:N wr b (X+k) s:=h.o.cell (x k s g) o
  have Z:(L.take (k+1)).map O_=(L.take k).map O_++[O_ s]:=(by
   obtain⟨H,I⟩:=iR.1 g
   rw[Ht H,I,sJ];rfl)
  have p:=hl s (gM g)
  have q:Hid (∀W,G wr W->z 195 #[.pointer (some ⟨kp,0,none⟩),.slice (some ⟨W.heap.size,0,none⟩) 1 1] (W.alloc (.cells #[V 1,s,.string ⟨#[]⟩,.string ⟨#[42]⟩,.string ⟨#[]⟩,.string ⟨#[]⟩,.string ⟨#[]⟩,V 0,V 0,V 0] 146)) λe w'=>e=.returned (.tuple #[])/\∃v',Col w' lo kp mb v' fA (fT fA (fT fA d ((L.take k).map O_)) [O_ s])/\kU kp mb f wr v' w'):=O λW K=>
   add_one m.o K (O_ s) (JF p D) hf (by
    have:=(kW fA d ((L.take k).map O_)).2
    rw[oD,qg,fg_ F]at this;omega)
  have r1:(0:Int)<=(k:Int):=U;have ae:(k:Int)<(L.length:Int):=U;clear x g o p;go_wp2_with fail;refine(q.o _ (fD _ _)).mono ?_;rintro e P ⟨rfl,v2,r,t⟩;have aa:Hid (Col P lo kp mb v2 fA (fT fA d ((L.take (k+1)).map O_))):=O (by rw[Z,kK];exact r);have ab:=O (h.o.trans t);clear r t q;go_wp2;go_roundw;exact⟨k+1,v2,U,R,aa,ab⟩;exact M
 ·(obtain rfl:k=L.length:=by omega);go_wp2;go_end0;exact⟨rfl,f,by have:=m.o;rwa[jh]at this,h.o⟩
end
end Go.Proofs.YtjmbkfjklemmpaaGreatDoor
