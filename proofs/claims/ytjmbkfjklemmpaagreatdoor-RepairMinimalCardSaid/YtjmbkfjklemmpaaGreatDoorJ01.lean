import Derived.Deep.Quiet
import Derived.Ground.GgzProg
import Derived.Ground.Names2Prog
import Derived.Ground.NamesProg
import Derived.Ground.SlgmProg
import Derived.Ground.SlgnProg
import Derived.Ground.SlsfProg
import Derived.Laws.IdiomStrings
import Derived.LoopIn
import Derived.RangeFuncBound
import Derived.RangeFuncCalls
import Derived.RangeFuncLeaves
import Derived.RangeFuncNested
import Derived.RangeFuncWrites
import Derived.Shelf.Abstract
import Derived.Shelf.Lay
import Derived.Shelf.LaysM
import Derived.Shelf.SlGeneric
import Derived.Shelf.SlIter.Nil
import Derived.Shelf.SlSortCmp.HeapSort1
import Derived.Shelf.SlSortCmp.Insertion
import Derived.Shelf.SlSortCmp.Insertion1
import Derived.Shelf.SlSortCmp.Median1
import Derived.Shelf.SlSortCmp.NoneTotal
import Derived.Shelf.SlSortCmp.PartialInsertion1
import Derived.Shelf.SlSortCmp.Partition1
import Derived.Shelf.SlSortCmp.PartitionEqual1
import Derived.Shelf.SlSortCmp.Pdq1
import Derived.Shelf.SlSortCmp.Pivot1
import Derived.Shelf.SlSortCmp.ReverseRange1
import Derived.Shelf.SlSortCmp.SiftDown1
import Derived.Shelf.SlSortCmp.Whole1
import Derived.Shelf.SlSortCmp.WholeK
import Derived.Shelf.Slices.Cells
import Derived.Shelf.Slices.Clone
import Derived.Shelf.Slices.CompactS
import Derived.Shelf.Slices.Empties
import Derived.Shelf.Slices.In.SortNone
import Derived.Shelf.Slices.Reverse
import Derived.Shelf.Slices.SearchI
import Derived.Shelf.Slices.Turned
import Derived.Shelf.SlicesE.Clone
import Derived.Shelf.Small.Bits
import Derived.Shelf.Small.Strs
import Derived.Shelf.Small.Wraps
import Derived.Shelf.Sort.Plain
import Derived.Shelf.SortM.Plain
import Derived.Shelf.SortM.SortNone
import Derived.Shelf.Spec.SearchS
import Derived.Shelf.Spec.SlicesInsertGrow
import Derived.Shelf.Strconv.Itoa0
import Derived.Shelf.Strconv.Itoa1
import Derived.Shelf.Strconv.Itoa2
import Derived.Shelf.Strconv.Itoa3
import Derived.Shelf.Strings.Builder1
import Derived.Shelf.Strings.Builder2
import Derived.Shelf.Strings.BuilderF
import Derived.Shelf.Strings.BuilderK
import Derived.Shelf.Strings.Count
import Derived.Shelf.Strings.Cut
import Derived.Shelf.Strings.Explode
import Derived.Shelf.Strings.OnBuilder
import Derived.Shelf.Strings.Prefix
import Derived.Shelf.Strings.RuneCount
import Derived.Shelf.Strings.Search1
import Derived.Shelf.Strings.Search2
import Derived.Shelf.Strings.Search3
import Derived.Shelf.Strings.Shaped
import Derived.Shelf.Strings.Split
import Derived.Shelf.Strings.SplitShaped
import Derived.Shelf.Unicode.Decode
import Derived.Shelf.Unicode.DecodeAny
import Derived.Shelf.Unicode.DecodeSlow
import Derived.Shelf.Utf8.RuneCount
import Derived.StillTail
import Derived.TacticsInMore
import Derived.Test.YtjmbkfjklemmpaaGreatDoorJ00
set_option linter.all false
set_option maxRecDepth 100000
set_option maxHeartbeats 32000000
open Go renaming World->W_,Value->V_,maxLen->m_
namespace Go.Proofs
abbrev Hf:=@Go.World.putObj_heap_other
abbrev vW:=@Go.Proofs.enters_of
abbrev hh_:=@Go.Proofs.AnyF.slices_SortFunc_none
abbrev iw_:=@Go.World.alloc_heap_new
abbrev ix_:=@Go.World.putObj_heap_same
abbrev iy_:=@Go.run_endLoop
end Go.Proofs
namespace Go.Proofs.YtjmbkfjklemmpaaGreatDoor
section
open Go.RowKit Tryz
def Qd(s:St)(w:W_):∃c a,(convert 9 278 (.string ⟨s.toArray⟩)).run prog w=.ok (.slice (some ⟨w.heap.size,0,none⟩) s.length c) a/\G w a/\∀j x,s[j]?=some x->N a w j (bV x):=by have h:=run_bytes_of_string (P:=prog) w 9 278 5 ⟨s.toArray⟩ underlying9 underlying278 underlying5;refine⟨_,_,h,⟨rfl,rfl,rfl,S,λi hi=>Uf w.drew _ i hi⟩,λj x b=>?_⟩;have d:j<s.length:=(iR.1 b).1;have e:s[j]=x:=(iR.1 b).2;have hb:=bytesRow_at ⟨s.toArray⟩ (grownCap w (ByteArray.mk s.toArray).size 0 5) j (Q d);have f:=dj_ w.drew (.cells (bytesRow ⟨s.toArray⟩ (grownCap w (ByteArray.mk s.toArray).size 0 5)) 5 ((bytesRow ⟨s.toArray⟩ (grownCap w (ByteArray.mk s.toArray).size 0 5)).size,(bytesRow ⟨s.toArray⟩ (grownCap w (ByteArray.mk s.toArray).size 0 5)).size+1));have g:(w.drew.alloc (.cells (bytesRow ⟨s.toArray⟩ (grownCap w (ByteArray.mk s.toArray).size 0 5)) 5 ((bytesRow ⟨s.toArray⟩ (grownCap w (ByteArray.mk s.toArray).size 0 5)).size,(bytesRow ⟨s.toArray⟩ (grownCap w (ByteArray.mk s.toArray).size 0 5)).size+1))).heap[w.heap.size]?=some _:=f;simp only[World.cell?,g,Option.bind_some];rw[hb];simp[e]
def vX(c:UInt8):Bool:=iY c||c==95||(48<=c&&c<=57)
def Qe(s:St):mM s=s.all vX:=rfl
def WQ(c:UInt8):vX c=(iY c||decide ((c.toNat:Int)=95)||(decide ((48:Int)<=c.toNat)&&decide ((c.toNat:Int)<=57))):=by unfold vX;have a:(decide (48<=c):Bool)=decide ((48:Int)<=c.toNat):=jg_.2 (by rw[jk_];exact jl_.symm);have b:(decide (c<=57):Bool)=decide ((c.toNat:Int)<=57):=jg_.2 (by rw[jk_];exact jl_.symm);(have d:(c==95)=decide ((c.toNat:Int)=95):=by rw[WA,Uh,hp_];constructor;(·rintro rfl;rfl);·intro h;exact gt_.1 (by have:(95:UInt8).toNat=95:=rfl;omega));rw[a,b,d]
def oF{α:Type}{p:α->Bool}{l:List α}{k:Nat}{x:α}(h:l[k]?=some x):(l.take (k+1)).all p=((l.take k).all p&&p x):=by rw[DC,h];simp
def EK{α:Type}{p:α->Bool}{l:List α}{k:Nat}{x:α}(h:l[k]?=some x)(a:p x=false):l.all p=false:=by rw[List.all_eq_false];exact⟨x,gM h,by simp[a]⟩
def EL(s:St)(w:W_)(C:s.length<=1000000):z 271 #[d_ s] w λe w'=>e=.returned (mM s)/\G w w':=by
 unfold d_;rw[Qe];obtain⟨c,E,B,q,r⟩:=Qd s w;have l:=O q;have t:=O r;clear q r;go_in;go_wp2_with fail;clear B;go_loop [8] (λi=>∃k:Nat,k<=s.length/\i=.int .i64 k/\Hid ((s.take k).all vX=true)) (λi=>s.length-(intOf i).toNat);exact⟨0,gL _,rfl,O S⟩;obtain⟨k,F,rfl,g⟩:=hrel;by_cases y:k<s.length
 ·obtain⟨x,m⟩:=g_ y
  have u:=t.o k x m;have h:=O m;have q1:(0:Int)<=(k:Int):=U;have q2:(k:Int)<(s.length:Int):=U;clear m;unfold bV at u;have d:vX x=(iY x||decide ((x.toNat:Int)=95)||(decide ((48:Int)<=x.toNat)&&decide ((x.toNat:Int)<=57))):=WQ x
  cases hl:iY x with
  |true=>
   (have b:Hid (∀w,z 270 #[.int .u8 (x.toNat:Int)] w λe w'=>e=.returned true/\w=w'):=O λw=>vV x w hl);have a:Hid (vX x=true):=O (by rw[d,hl];rfl);clear hl d;generalize (x.toNat:Int)=z at *;go_wp2_with fail;(with_reducible refine(b.o _).mono ?_);rintro e j ⟨rfl,rfl⟩;go_wp2;go_round;exact⟨k+1,U,R,O (by rw[oF h.o,g.o,a.o];rfl)⟩;exact M
  |false=>
   (have b:Hid (∀w,z 270 #[.int .u8 (x.toNat:Int)] w λe w'=>e=.returned false/\w=w'):=O λw=>vV x w hl);have I:=adz x;rw[hl]at d;have n:=O d;clear hl d;generalize (x.toNat:Int)=z at *;by_cases f:z=95;·have a:Hid (vX x=true):=O (by rw[n.o,f];rfl);(have q3:(z !=95)=false:=by simp[f]);clear f;go_wp2_with fail;(with_reducible refine(b.o _).mono ?_);rintro e j ⟨rfl,rfl⟩;go_wp2;go_round;exact⟨k+1,U,R,O (by rw[oF h.o,g.o,a.o];rfl)⟩;exact M
   ·have q3:(z !=95)=true:=by simp[f]
    by_cases A:48<=z/\z<=57;·have a:Hid (vX x=true):=O (by rw[n.o];simp[A]);(have o:decide (z<48)=false:=by simp;omega);(have v:decide (57<z)=false:=by simp;omega);go_wp2_with fail;(with_reducible refine(b.o _).mono ?_);rintro e j ⟨rfl,rfl⟩;go_wp2;go_round;exact⟨k+1,U,R,O (by rw[oF h.o,g.o,a.o];rfl)⟩;exact M
    ·have a:Hid (vX x=false):=O (by
      rw[n.o];simp only[is_,Bool.or_eq_false_iff,Bool.and_eq_false_iff,hq_]
      exact⟨f,U⟩)
     have p:Hid (s.all vX=false):=O (EK h.o a.o);by_cases H:z<48;(·(have o:decide (z<48)=true:=by simp;omega);go_wp2_with fail;(with_reducible refine(b.o _).mono ?_);rintro e j ⟨rfl,rfl⟩;go_wp2;go_ret;exact⟨ku p.o.symm,l.o⟩);·(have o:decide (z<48)=false:=by simp;omega);(have v:decide (57<z)=true:=by simp;omega);go_wp2_with fail;(with_reducible refine(b.o _).mono ?_);rintro e j ⟨rfl,rfl⟩;go_wp2;go_ret;exact⟨ku p.o.symm,l.o⟩
 ·(obtain rfl:k=s.length:=by omega);go_wp2;go_ret;exact⟨by rw[show s.all vX=true by have:=g.o;rwa[jh]at this];rfl,l.o⟩
def M7(s:St)(w:W_):z 272 #[d_ s] w λe w'=>e=.returned (kws.contains s)/\w=w':=by unfold d_;go_in;go_wp2_with fail;all_goals first|(exfalso;simp_all;done)|(go_ret;exact⟨ku (by simp_all [kws,List.contains_cons]),rfl⟩)
def EN(s:St)(w:W_)(m:s.length<=1000000):z 225 #[d_ s] w λe w'=>e=.returned (jJ s)/\G w w':=by
 cases s with
 |nil=>
  unfold d_;go_in;go_wp2;go_ret;exact⟨rfl,fD _ _⟩
 |cons c r=>
  (have j:∀w b,iY c=b->z 270 #[.int .u8 (c.toNat:Int)] w λe w'=>e=.returned (.bool b)/\w=w':=λw b h=>vV c w h);(have a:Hid (∀w b,mM (c::r)=b->z 271 #[d_ (c::r)] w λe w'=>e=.returned (.bool b)/\G w w'):=O λw b h=>by subst h;exact EL (c::r) w m);(have d:Hid (∀w b,kws.contains (c::r)=b->z 272 #[d_ (c::r)] w λe w'=>e=.returned (.bool b)/\w=w'):=O λw b h=>by subst h;exact M7 (c::r) w);have k:jJ (c::r)=(iY c&&mM (c::r)&& !kws.contains (c::r)):=rfl;unfold d_ at a d ⊢;generalize jJ (c::r)=x at *;have u:∀h,(ByteArray.mk (c::r).toArray)[0]'h=c:=λ_=>rfl
  cases hl:iY c<;>cases f:mM (c::r)<;>cases g:kws.contains (c::r)<;>
  ·have i:=k;rw[hl,f,g]at i;have l:=O i;have o:=(λw=>j w _ hl);have p:=(λw=>a.o w _ f);have q:=(λw=>d.o w _ g);clear i hl f g j a d k;go_in;go_wp2_with (first|(go_at_call 270;with_reducible refine(o _).mono ?_;rintro e n ⟨rfl,rfl⟩)|(go_at_call 271;with_reducible refine(p _).mono ?_;rintro e n ⟨rfl,t⟩)|(go_at_call 272;with_reducible refine(q _).mono ?_;rintro e v ⟨rfl,rfl⟩));go_ret;first|exact⟨ku l.o.symm,t⟩|exact⟨ku l.o.symm,fD _ _⟩
def vZ(s:St)(w:W_)(n:s.length<=4611686018427387904):z 226 #[d_ s] w λe w'=>e=.returned (iy s)/\G w w':=by
 match s with
 |[]=>
  unfold d_;go_in;go_wp2;go_ret;exact⟨rfl,fD _ _⟩
 |[c]=>
  unfold d_;go_in;go_wp2;go_ret;exact⟨rfl,fD _ _⟩
 |c::d::r=>
  have a:Hid (iy (c::d::r)=(c==95&&mM (c::d::r)&&decide ((c::d::r).length<=24))):=O rfl;(have l:(c==95)=decide ((c.toNat:Int)=95):=by rw[WA,Uh,hp_];constructor;(·rintro rfl;rfl);·intro h;exact gt_.1 (by have:(95:UInt8).toNat=95:=rfl;omega));rw[l]at a;(have u:∀h,(ByteArray.mk (c::d::r).toArray)[0]'h=c:=λ_=>rfl);have x:(ByteArray.mk (c::d::r).toArray).size=r.length+2:=rfl;have m:(c::d::r).length=r.length+2:=rfl;rw[m]at a n;unfold d_;generalize iy (c::d::r)=p at *;clear l m;(have g1:decide ((2:Int)<=((r.length+2:Nat):Int))=true:=by simp;omega);by_cases hl:r.length+2<=24
  ·have o:decide (((r.length+2:Nat):Int)<=24)=true:=by simp;omega
   have j:∀w b,mM (c::d::r)=b->z 271 #[.string ⟨(c::d::r).toArray⟩] w λe w'=>e=.returned (.bool b)/\G w w':=λw b h=>by subst h;exact EL (c::d::r) w (by simp;omega)
   cases i:mM (c::d::r)<;>by_cases k:(c.toNat:Int)=95<;>
   ·have f:=a.o;rw[i]at f;simp only[hl,k,dw_,dy_,ia_,gj_,ik_,il_]at f;have g:=O f;have q:=(λw=>j w _ i);have q1:((c.toNat:Int)==95)=decide ((c.toNat:Int)=95):=rfl;simp only[k,dw_,dy_]at q1;clear f i j a;go_in;go_wp2_with (first|(go_at_call 271;with_reducible refine(q _).mono ?_;rintro e v ⟨rfl,t⟩));go_ret;first|exact⟨ku g.o.symm,t⟩|exact⟨ku g.o.symm,fD _ _⟩
  ·(have o:decide (((r.length+2:Nat):Int)<=24)=false:=by simp;omega);have g:Hid (p=false):=O (by rw[a.o];simp;omega);clear a;go_in;go_wp2;go_ret;exact⟨ku g.o.symm,fD _ _⟩
def kV{ps:List Cn}{k:Nat}{p:Cn}(h:ps[k]?=some p):Cn.sizes (ps.take (k+1))=Cn.sizes (ps.take k)+p.size:=by
 have:∀(l m:List Cn),Cn.sizes (l++m)=Cn.sizes l+Cn.sizes m:=λl m=>by
  induction l with
  |nil=>simp[Cn.sizes]
  |cons a l b=>simp only[IY,Cn.sizes,b];omega
 rw[DC,h,this];simp[Cn.sizes]
def mE(ps:List Cn)(k:Nat):Cn.sizes (ps.take k)<=Cn.sizes ps:=by
 induction ps generalizing k with
 |nil=>simp
 |cons a l b=>
  cases k with
  |zero=>simp[Cn.sizes]
  |succ k=>simp only[SX,Cn.sizes];have:=b k;omega
def EO{ps:List Cn}{p:Cn}(h:p∈ps):p.deep+1<=Cn.CB ps:=by
 induction ps with
 |nil=>cases h
 |cons a l b=>
  simp only[Cn.CB];rcases jU.1 h with rfl|h;(·omega);·have:=b h;omega
def M8{ps:List Cn}{n:Nat}(h:∀p∈ps,p.deep+1<=n):Cn.CB ps<=n:=by
 induction ps with
 |nil=>simp[Cn.CB]
 |cons a l b=>simp only[Cn.CB];have:=b λp c=>h p (by simp[c]);have:=h a S;omega
def size_eq(c:Cn):c.size=Cn.sizes c.parts+1:=by cases c;rfl
def KO(c:Cn):c.deep=Cn.CB c.parts:=by cases c;rfl
def pO{ps:List Cn}{k:Nat}{p:Cn}(h:ps[k]?=some p):Cn.sizes (ps.take k)+p.size<=Cn.sizes ps:=by rw[<-kV h];exact mE _ _
def Bf{w w':W_}{sb:Nat}(h:w.grownBy w' (some sb))(u:V_):w.grownBy (w'.setCell ⟨sb,0,none⟩ u) (some sb):=⟨h.os,h.tape,h.output,Q h.size,λk b a=>(D8 w' ⟨sb,0,none⟩ u k (λe=>a (by rw[e]))).trans (h.block k b a)⟩
def zK{w w':W_}{r:Option Nat}(h:w.grownBy w' r)(o:Obj):w.grownBy (w'.alloc o) r:=h.trans (ed_ w' o r)
def EP(w:W_)(sb:Nat)(c:Cn)(d n:Nat)(e:Ending)(w':W_):Prop:=∃b m,e=.returned (.bool b)/\w.grownBy w' (some sb)/\f_ w' sb 3 #[.int .i64 m]/\(b=true↔d+c.deep<=8/\n+c.size<=64)/\(b=true->m=((n+c.size:Nat):Int))
def WR(c:Cn):∀(v:V_)(d n:Nat)(a w:W_)(sb:Nat),CV a v c->G a w->a.heap.size<=sb->f_ w sb 3 #[n]->d<=9->n<=64-> z 169 #[v,d,.pointer (some ⟨sb,0,none⟩)] w (EP w sb c d n):=by
 induction c using Cn.ind with
 |h c ap=>
  intro v d n a w sb hc Z aw r aH aI;obtain⟨A,cap,rfl,aQ,aC,aG⟩:=hc.form;unfold m_ at aC;have c0:N w sb 0 n:=r.cell 0;have aq:=r.frozen 0;have aM:=r.lt;have ag:=size_eq c;have ah:=KO c;have u:=(And.intro ag ah);clear hc ah;by_cases aN:d<=8
  ·by_cases aR:n+1<=64
   ·have q1:decide ((8:Int)<(d:Int))=false:=by simp;omega
    (have q2:decide ((64:Int)<(n:Int)+1)=false:=by simp;omega);clear ag;go_in;go_wp2_with fail;obtain⟨s,C⟩:∃s,(w.setCell ⟨sb,0,none⟩ (.int .i64 ((n:Int)+1))).alloc (.cells (Cs c A cap) 40)=s:=⟨_,rfl⟩;(have ai:w.grownBy s (some sb):=by rw[<-C];exact zK (Bf (P8 _ _) _) _);(have aj:f_ s sb 3 #[V ((n:Int)+1)]:=by rw[<-C];have:=(r.iK 0 (.int .i64 ((n:Int)+1))).alloc (.cells (Cs c A cap) 40);simpa using this);rw[C];have ak:Hid (w.grownBy s (some sb)/\f_ s sb 3 #[V ((n+1+Cn.sizes (c.parts.take 0):Nat):Int)]/\∀p∈c.parts.take 0,d+1+p.deep<=8):=O ⟨ai,by simpa[Cn.sizes]using aj,λ_ h=>by simp at h⟩;clear C ai aj c0 aq r;go_loopw [25] (λi wr=>∃k:Nat,k<=c.parts.length/\i=.int .i64 (k:Int)/\n+1+Cn.sizes (c.parts.take k)<=64/\Hid (w.grownBy wr (some sb)/\f_ wr sb 3 #[V ((n+1+Cn.sizes (c.parts.take k):Nat):Int)]/\∀p∈c.parts.take k,d+1+p.deep<=8)) (λi _=>c.parts.length-(intOf i).toNat);exact⟨0,gL _,rfl,by simp[Cn.sizes];omega,ak⟩;clear ak;obtain⟨k,aJ,rfl,am,x⟩:=hrel;by_cases aD:k<c.parts.length
    ·obtain⟨b,f,rfl,y,ao⟩:=aG U
     obtain⟨p,g⟩:=g_ aD;obtain⟨aK,t,P⟩:=ao k p g;obtain⟨H,I,rfl⟩:=P.cells;have m:G a wr:=Z.grown x.o.1 Z.size (λj e=>by injection e with e;omega);have aa:N wr b (f+k*5) p.kind:=(m.cell (p:=⟨b,f+k*5,none⟩) y).trans (by have:=t 0 _ rfl;rw[<-this];congr 2;omega);have ab:N wr b (f+k*5+1) (d_ p.name):=(m.cell (p:=⟨b,f+k*5+1,none⟩) y).trans (by have:=t 1 _ rfl;rw[<-this];congr 2;omega);have ac:N wr b (f+k*5+2) p.lo:=(m.cell (p:=⟨b,f+k*5+2,none⟩) y).trans (by have:=t 2 _ rfl;rw[<-this];congr 2;omega);have ad:N wr b (f+k*5+3) p.hi:=(m.cell (p:=⟨b,f+k*5+3,none⟩) y).trans (by have:=t 3 _ rfl;rw[<-this];congr 2;omega);have ae:N wr b (f+k*5+4) (.slice H p.parts.length I):=(m.cell (p:=⟨b,f+k*5+4,none⟩) y).trans (by have:=t 4 _ rfl;rw[<-this];congr 2;omega);have ax:CV a (.agg (Cs p H I)) p:=⟨_,rfl,P⟩;have aO:=pO g;have aP:=EO (gM g);have ay:a.heap.size<=wr.heap.size:=m.size;have r1:(0:Int)<=(k:Int):=U;have aL:(k:Int)<(c.parts.length:Int):=U;(have aE:Hid (∀o,z 169 #[.agg (Cs p H I),V ((d:Int)+1),.pointer (some ⟨sb,0,none⟩)] (wr.alloc o) (EP (wr.alloc o) sb p (d+1) (n+1+Cn.sizes (c.parts.take k)))):=O λo=>ap p (gM g) _ (d+1) (n+1+Cn.sizes (c.parts.take k)) a _ sb ax (m.alloc ay o) aw (x.o.2.1.alloc o) U am);clear ao t P;go_wp2_with fail;(with_reducible refine(aE.o _).mono ?_);rintro e K ⟨ar,au,rfl,T,B,E,W⟩;have al:w.grownBy K (some sb):=((zK x.o.1 _).trans T)
     cases ar with
     |true=>
      obtain⟨L,af⟩:=E.1 rfl;have X:=kV g
      have av:Hid (w.grownBy K (some sb)/\f_ K sb 3 #[V ((n+1+Cn.sizes (c.parts.take (k+1)):Nat):Int)]/\∀q∈c.parts.take (k+1),d+1+q.deep<=8):=O ⟨al,by
       rw[W rfl]at B
       rw[X,<-gx_];exact B,λq l=>by
       rw[DC,g]at l;rcases gH.1 l with l|l;·exact x.o.2.2 q l
       ·simp at l;subst l;exact L⟩
      (have aF:n+1+Cn.sizes (c.parts.take (k+1))<=64:=by rw[X];omega);clear E W B T X aa ab ac ad ae;go_wp2;go_roundw;exact⟨k+1,U,R,aF,av⟩;exact M
     |false=>
      (have az:¬(d+c.deep<=8/\n+c.size<=64):=λ⟨L,af⟩=>by have:=E.2 ⟨by rw[u.2]at L;omega,by rw[u.1]at af;omega⟩;cases this);have aA:=O B;clear E W B T aa ab ac ad ae;go_wp2;go_ret;exact⟨false,au,rfl,al,aA.o,⟨λh=>(by cases h),λh=>absurd h az⟩,λh=>(by cases h)⟩
    ·(obtain rfl:k=c.parts.length:=by omega);have F:=x.o;rw[jh]at F am;have an:=O F;have aB:=(M8 (ps:=c.parts) (n:=8-d) λp g=>by have:=F.2.2 p g;omega);clear F;go_wp2;go_ret;refine⟨true,_,rfl,an.o.1,an.o.2.1,⟨λ_=>⟨by rw[u.2];have:=aB;omega,by rw[u.1];omega⟩,λ_=>rfl⟩,λ_=>by rw[u.1];congr 1;omega⟩
   ·(have q1:decide ((8:Int)<(d:Int))=false:=by simp;omega);(have q2:decide ((64:Int)<(n:Int)+1)=true:=by simp;omega);go_in;go_wp2;go_ret;refine⟨false,(n:Int)+1,rfl,zK (Bf (P8 _ _) _) _,by have:=(r.iK 0 (.int .i64 ((n:Int)+1))).alloc (.cells (Cs c A cap) 40);simpa using this,⟨λh=>(by cases h),λh=>U⟩,λh=>(by cases h)⟩
  ·(have q1:decide ((8:Int)<(d:Int))=true:=by simp;omega);go_in;go_wp2;go_ret;refine⟨false,(n:Int)+1,rfl,zK (Bf (P8 _ _) _) _,by have:=(r.iK 0 (.int .i64 ((n:Int)+1))).alloc (.cells (Cs c A cap) 40);simpa using this,⟨λh=>(by cases h),λh=>U⟩,λh=>(by cases h)⟩
def yj(c:Cn)(r:Int):Prop:=(c.size:Int)<=r/\∀x∈c.pre,(x.name.length:Int)<=40*r+39
def Jd(c:Cn)(k:Nat)(n:Int):Prop:=1+(Cn.sizes (c.parts.take k):Int)<=n/\(c.name.length:Int)<=40*n+39/\∀p∈c.parts.take k,∀x∈p.pre,(x.name.length:Int)<=40*n+39
def Jd.next{c p:Cn}{k:Nat}{n r:Int}(h:Jd c k n)(b:c.parts[k]?=some p)(d:yj p r)(g:0<=r)(i:0<=n):Jd c (k+1) (n+r):=by obtain⟨j,l,f⟩:=h;refine⟨by rw[kV b];have:=d.1;omega,U,λq a x e=>?_⟩;rw[DC,b]at a;rcases gH.1 a with a|a;(·have:=f q a x e;omega);·simp at a;subst a;have:=d.2 x e;omega
def ET{x:Cn}:∀{ps:List Cn},x∈Cn.jV ps->∃p∈ps,x∈p.pre
 |[],h=>by simp[Cn.jV]at h
 |a::l,h=>by
  simp only[Cn.jV]at h;rcases gH.1 h with h|h;(·exact⟨a,S,h⟩);·obtain⟨p,b,c⟩:=ET h;exact⟨p,by simp[b],c⟩
def Jd.all{c:Cn}{n:Int}(h:Jd c c.parts.length n):yj c n:=by obtain⟨b,e,d⟩:=h;rw[jh]at b d;obtain⟨k,s,l,g,ps⟩:=c;refine⟨by simp only[Cn.size,Cn.parts]at b ⊢;omega,λx a=>?_⟩;simp only[Cn.pre]at a;rcases jU.1 a with rfl|a;(·exact e);·obtain⟨p,f,i⟩:=ET a;exact d p f x i
def yT(c:Cn):Prop:=∀x∈c.pre,x.name.length<=140737488355328
def WS(c:Cn):c∈c.pre:=by cases c;simp[Cn.pre]
def Je{x p:Cn}:∀{ps:List Cn},p∈ps->x∈p.pre->x∈Cn.jV ps
 |[],h,_=>(by cases h)
 |a::l,h,hx=>by
  simp only[Cn.jV];rcases jU.1 h with rfl|h;(·exact gH.2 (.inl hx));·exact gH.2 (.inr (Je h hx))
def yT.part{c p:Cn}(h:yT c)(a:p∈c.parts):yT p:=λx b=>h x (by cases c;simp only[Cn.pre];exact ZJ _ (Je a b))
def Bg(w:W_)(c:Cn)(m:Int)(e:Ending)(w':W_):Prop:=G w w'/\∃r:Int,e=.returned r/\0<=r/\r<=m+3600000000000/\(r<=m->yj c r)
def Uj(c:Cn):∀(v:V_)(w:W_)(d m:Int),CV w v c->yT c->0<=m->m<=150->0<=d->d<=40->z 126 #[v,d,m] w (Bg w c m):=by
 induction c using Cn.ind with
 |h c E=>
  intro v w d m hc l aC aD aE aF;obtain⟨A,cap,rfl,aL,ay,ac⟩:=hc.form;have ad:=O ac;have aG:=l c (WS c);unfold m_ at ay;have an:=O l;have ao:=O E;clear ac hc l E;have o:Hid (G w (w.alloc (.cells #[c.kind,d_ c.name,c.lo,c.hi,.slice A c.parts.length cap] 40))):=O bA;go_in;by_cases ae:d<=0;(·(obtain rfl:d=0:=by omega);go_wp2;go_ret;exact⟨o.o,m+1,rfl,U,U,λh=>U⟩);·obtain⟨q,F⟩:∃q:Int,q=(c.name.length:Int) / 40:=⟨_,rfl⟩;have aH:0<=q/\q<=3518437208883/\(c.name.length:Int)<=40*q+39:=U;(have aI:decide (d<=0)=false:=by simp;omega);have H:Hid (0<=d-1/\d-1<=40):=O U;obtain⟨f,s⟩:∃q,w.alloc (.cells #[c.kind,d_ c.name,c.lo,c.hi,.slice A c.parts.length cap] 40)=q:=⟨_,rfl⟩;(have t:f_ f w.heap.size 40 #[c.kind,d_ c.name,c.lo,c.hi,.slice A c.parts.length cap]:=by rw[<-s];exact f_.new _ _ _);have ap:=O t;rw[s]at o;have c1:=t.cell 1;clear t ae;go_wp2_with fail;rw[<-F];clear c1 s F;go_loopw [7,8] (λn i wr=>∃(k:Nat)(n':Int),k<=c.parts.length/\i=.int .i64 (k:Int)/\n=.int .i64 n'/\1<=n'/\n'<=m+3600000000000/\Hid (n'<=m->Jd c k n')/\Hid (G f wr)) (λ_ i _=>c.parts.length-(intOf i).toNat);exact⟨0,1+q,gL _,rfl,rfl,U,U,O λ_=>⟨by simp[Cn.sizes];omega,U,λ_ h=>by simp at h⟩,O (fD _ _)⟩;obtain⟨k,n,az,rfl,rfl,aJ,T,I,g⟩:=hrel;have K:=bk g.o ap.o;have c4:N wr w 4 (.slice A c.parts.length cap):=K.cell 4;have x:Hid (G w wr):=O (b_ o.o g.o);clear K;by_cases aq:k<c.parts.length;(·by_cases ar:n<=m;(·obtain⟨b,y,rfl,au,aa⟩:=ad.o U;obtain⟨p,a⟩:=g_ aq;obtain⟨aA,W,B⟩:=aa k p a;obtain⟨L,P,rfl⟩:=B.cells;have C:=x.o;(have key:∀(j:Nat) u,[Value.int .i64 p.kind,d_ p.name,.int .i64 p.lo,.int .i64 p.hi,.slice L p.parts.length P][j]?=some u->N wr b (y+k*5+j) u:=λj u af=>(C.cell (p:=⟨b,y+k*5+j,none⟩) au).trans (by have:=W j u af;rw[<-this];congr 2;omega));have ag:N wr b (y+k*5) p.kind:=key 0 _ rfl;have ah:=key 1 _ rfl;have ai:=key 2 _ rfl;have aj:=key 3 _ rfl;have ak:=key 4 _ rfl;have av:=O a;have ab:Hid (z 126 #[.agg #[p.kind,d_ p.name,p.lo,p.hi,.slice L p.parts.length P],V (d-1),V (m-n)] wr (Bg wr p (m-n))):=O (ao.o p (gM a) _ wr (d-1) (m-n) ⟨_,rfl,B.up C⟩ (an.o.part (gM a)) U U H.o.1 H.o.2);have r1:(0:Int)<=(k:Int):=U;have al:(k:Int)<(c.parts.length:Int):=U;clear aa W B C key a;go_wp2_with (go_at_call 126;refine ab.o.mono ?_;rintro e aB ⟨X,r,rfl,aw,aK,Z⟩;have ax:=O (b_ g.o X);have am:=O Z;clear X Z ag ah ai aj ak c4 ab);go_roundw;exact⟨k+1,n+r,U,R,rfl,U,U,O λh=>(I.o ar).next av.o (am.o U) aw U,ax⟩;exact M);·(have r1:decide (n<=m)=false:=by simp;omega);have al:(k:Int)<(c.parts.length:Int):=U;go_wp2;go_ret;exact⟨x.o,n,rfl,U,T,λh=>U⟩);·(obtain rfl:k=c.parts.length:=by omega);go_wp2;go_ret;exact⟨x.o,n,rfl,U,T,λh=>(I.o h).all⟩
end
section
open Go Go.RowKit Tryz
section
variable{P:Program}{ops:Array Oper}{md:Region.Mode}{C:W_->Prop}
def M9(P:Program)(md:Region.Mode)(ops:Array Oper)(C:W_->Prop)(n:Nat)(L:Array Bool->Act->Prop):Nat->Array Bool->Act->Prop
 |0,listed,a=>L listed a
 |f+1,listed,a=>Region.ready md ops listed≠[]/\∀i∈Region.ready md ops listed,i<n/\qOp P ops C i (M9 P md ops C n L f (listed.setIfInBounds i true)) a
def Jf{n g:Nat}{L:Array Bool->Act->Prop}{Q:Exit->Act->W_->Prop}(c:∀b a w,C w->L b a->wpAny P md ops Q g b a w):∀(f:Nat)(b:Array Bool)(a:Act)(w:W_),C w->M9 P md ops C n L f b a->wpAny P md ops Q (f+g) b a w
 |0,b,a,w,hw,h=>by rw[IZ];exact c _ _ _ hw h
 |f+1,b,a,w,hw,h=>by
  rw[show f+1+g=(f+g)+1 by omega];exact⟨λd=>absurd d h.1,λi hi=>wpOp_of_qOp hw (λe w' k j=>Jf c f _ e w' k j) (h.2 i hi).2⟩
def Na{n i:Nat}{p:Oper}{v:V_}{L:Array Bool->Act->Prop}(hi:ops[i]?=some p)(F:∀(j:Nat)(o:Oper) q b,ops[j]?=some o->o.op≠.select q b)(x:Region.sinkB md ops n=true)(hc:Region.chainB md ops n=true)(y:n<ops.size)(B:i<n)(ah:∀c a,L c a->∀j∈Region.ready md ops c,n<=j):∀(f:Nat)(c:Array Bool)(a:Act),HeadInv md ops n c-> (∀j g,ops[j]?=some g->j≠i->c.getD j true=false->(∀e∈g.after,Region.binds md e=true->e.on≠i)->p.apart ops g=true)-> i∈Region.ready md ops c->YieldsIn P ops C p v a->M9 P md ops C n L f (c.setIfInBounds i true) (a.put p.dst v)->M9 P md ops C n L (f+1) c a:=by
 intro f
 induction f with
 |zero=>
  intro c a inv _ m r H;have t:=(mem_ready.1 m).1;refine⟨List.ne_nil_of_mem m,λj l=>?_⟩;(have u:j<n:=Nat.lt_of_not_le λh=>tail_waits x hc y inv _ i rfl B t j h l);refine⟨u,?_⟩;by_cases d:j=i;(·subst d;exact r.qOp hi H);·have:=ah _ _ H j (ready_mono l d);omega
 |succ f T=>
  intro c a inv K m r H;have t:=(mem_ready.1 m).1;refine⟨List.ne_nil_of_mem m,λj l=>?_⟩;(have u:j<n:=Nat.lt_of_not_le λh=>tail_waits x hc y inv _ i rfl B t j h l);refine⟨u,?_⟩;by_cases d:j=i;(·subst d;exact r.qOp hi H);·have s:=(H.2 j (ready_mono l d)).2;obtain⟨I,g,w,af⟩:=mem_ready.1 l;(have ag:∀e∈g.after,Region.binds md e=true->e.on≠i:=λe W hb ac=>by have s:=af e W hb;rw[ac,getD_both t]at s;cases s);have X:=qOp_put w (K j g w d I ag) (λq b=>F i p q b hi) (λq b=>F j g q b w) r s;refine qOp_mono (λZ A=>T (c.setIfInBounds j true) Z (inv.set l u) (λk ok aa ad ab ae=>K k ok aa ad ?_ ae) (ready_mono m (Zl d)) A.1 ?_) X;(·by_cases E:j=k;(·subst E;exact I);·rwa[getD_set_ne true E]at ab);·rw[Array.setIfInBounds_comm _ _ d];exact A.2
def Jg{n g:Nat}{f:Act->Prop}(r:Region.noSelect ops=true)(i:Region.sinkB md ops n=true)(hc:Region.chainB md ops n=true)(m:n<ops.size):∀(l:List Oper)(k:Nat)(b:Array Bool)(a:Act),(∀j,j<l.length->l[j]?=ops[k+j]?)->k+l.length=n->HeadInv md ops n b-> Region.lexHead md ops g l.length k b=true->wpQuiet P ops C f l a->M9 P md ops C n (λB s=>Region.seqB md ops g n B=true/\f s) l.length b a
 |[],k,b,a,_,c,_,d,h=>by
  obtain rfl:k=n:=Q c;exact⟨by simpa[Region.lexHead]using d,h⟩
 |o::l,k,b,a,hl,c,inv,d,h=>by
  (have e:ops[k]?=some o:=by simpa using(hl 0 S).symm);simp only[p8,Region.lexHead,KJ]at d;obtain⟨⟨t,hf⟩,y⟩:=d;(have p:k<n:=by simp only[p8]at c;omega);have q:k∈Region.ready md ops b:=Q t;(have A:qOp P ops C k (wpQuiet P ops C f l) a:=by unfold qOp;simp only[e];exact h);obtain⟨v,u,w⟩:=yieldsIn_of_qOp e A
  exact Na e (Region.noSelect_spec r) i hc m p (λ_ _ x=>seqB_ready x.1) l.length b a inv (Region.free_spec e hf) q u
   (Jg r i hc m l (k+1) _ _ (λj E=>by have:=hl (j+1) (by simp;omega);simpa[gx_,Nat.add_comm 1 j]using this) (by simp only[p8]at c;omega) (inv.set q p) y w)
def wh(C:W_->Prop){m:Nat}{Q:Exit->Act->W_->Prop}{a:Act}{w:W_}{l:List Oper}(n:Nat)(o:P.follows .mixedOrders=true)(d:Region.lexTailB .any l.toArray n=true)(p:C w.drew)(h:wpQuiet P l.toArray C (λc=>∀w',C w'->wpList P l.toArray Q (l.drop n) c w') (l.take n) a):(Code.region m l.toArray true).wp P Q a w:=by
 simp only[Region.lexTailB,KJ,I5]at d;obtain⟨⟨⟨⟨v,e⟩,q⟩,hc⟩,x⟩:=d;have E:n<l.length:=Q_ e;(have b:(l.take n).length=n:=by simp;omega);have k:(l.drop n).length=l.toArray.size-n:=S;have y:HeadInv .any l.toArray n (Array.replicate l.toArray.size false):=⟨S,λj B _ hl=>(by rw[getD_replicate_false]at hl;cases hl),λt _ r=>getD_in (Q_ r) (getD_replicate_false _ _)⟩
 have H:=Jg (C:=C) (md:= .any) (g:=l.toArray.size-n) v q hc e (l.take n) 0 _ a (λj f=>by
  have s:j<n:=by rw[b]at f;exact f
  simp[s]) (Q_ b) y (by rw[b];exact x) h
 refine wp_region_any o ?_
 have:=Jf (C:=C) (Q:=Q) (g:=l.toArray.size-n) (λA c w' u i=>by
  have:=wpAny_of_seq (md:= .any) (Q':=Q) (l.drop n) n A c w' (λj=>by simp[hz_]) (by rw[k];exact i.1) (i.2 w' u)
  rwa[k]at this) _ _ _ _ p H
 rw[b,show n+(l.toArray.size-n)=l.toArray.size by omega]at this;exact this
def jQ{b:Nat}{Q:Exit->Act->W_->Prop}{a:Act}{w:W_}{l:List Oper}(n:Nat)(c:P.follows .mixedOrders=true)(d:Region.lexTailB .any l.toArray n=true)(h:wpQuiet P l.toArray (λw'=>∃s:Later w,w'=s.at) (λe=>∀w',(∃s:Later w,w'=s.at)->wpList P l.toArray Q (l.drop n) e w') (l.take n) a):(Code.region b l.toArray true).wp P Q a w:=wh (λw'=>∃s:Later w,w'=s.at) n c d ⟨⟨_,(fD _ _).drew⟩,rfl⟩ h
end
end
section
open Go.RowKit Tryz
attribute [local go_sem] Zy
structure zA(B base:Nat)(W W':W_):Prop where
 size:W.heap.size<=W'.heap.size
 same:∀k,k<W.heap.size->(k<B\/base<=k)->W'.heap[k]?=W.heap[k]?
def zA.trans{B base:Nat}{X Y Z:W_}(h:zA B base X Y)(k:zA B base Y Z):zA B base X Z:=⟨gT h.size k.size,λi a b=>(k.same i (sK a h.size) b).trans (h.same i a b)⟩
def zA.below{B base:Nat}{X Y:W_}(h:G X Y):zA B base X Y:=⟨h.size,λk a _=>h.block k a⟩
abbrev JC:=List Cn->W_->Prop
def ZL(J:JC):Prop:=∀s A B,J s A->G A B->J s B
def KQ(Z:List Cn->Cn->Prop)(wb:W_)(base m lp:Nat)(J Jx:JC):Prop:=∀(pre:List Cn)(v:V_)(c:Cn)(W:W_),Z pre c->J pre W->CV wb v c->base<=W.heap.size->(∀k,k<wb.heap.size->W.heap[k]?=wb.heap[k]?)-> YieldAt Fence.wide m prog lp #[v] W λe W'=>zA wb.heap.size base W W'/\((e=.returned true/\J (pre++[c]) W')\/(e=.returned false/\Jx (pre++[c]) W'))
def Qf{Z:List Cn->Cn->Prop}{b:W_}{base m m' lp:Nat}{a d:JC}(h:KQ Z b base m lp a d):KQ Z b base m' lp a d:=by intro pre v c W f g i j k;obtain⟨l,tmps,assign,body,n,e⟩:=h pre v c W f g i j k;exact⟨l,tmps,assign,body,n,e.1,λc o _=>e.2 c o (room_wide _)⟩
def rC:∀(l m:List Cn),Cn.jV (l++m)=Cn.jV l++Cn.jV m
 |[],m=>by simp[Cn.jV]
 |a::l,m=>by simp only[IY,Cn.jV,rC l m,Ho]
def qm{ps:List Cn}{k:Nat}{p:Cn}(h:ps[k]?=some p):Cn.jV (ps.take (k+1))=Cn.jV (ps.take k)++p.pre:=by rw[DC,h,rC];simp[Cn.jV]
def pre_eq(c:Cn):c.pre=c::Cn.jV c.parts:=by cases c;rfl
def WT{l:List Cn}{p x:Cn}(b:p∈l)(c:x∈p.pre):x∈Cn.jV l:=by
 induction l with
 |nil=>cases b
 |cons a l d=>
  simp only[Cn.jV,gH];rcases jU.1 b with rfl|b;(·exact .inl c);·exact .inr (d b)
def WU{c p x:Cn}(a:p∈c.parts)(b:x∈p.pre):x∈c.pre:=by rw[pre_eq];exact ZJ _ (WT a b)
def Qg{ps:List Cn}{k:Nat}{p:Cn}(h:ps[k]?=some p):Cn.jV ps=Cn.jV (ps.take k)++p.pre++Cn.jV (ps.drop (k+1)):=by rw[<-qm h,<-rC,eb_]
def Jh(wb:W_)(base:Nat)(c:Cn)(J Jx:JC)(pre:List Cn)(W:W_)(e:Ending)(W':W_):Prop:=zA wb.heap.size base W W'/\((e=.returned true/\J (pre++c.pre) W')\/(e=.returned false/\∃q r,c.pre=q++r/\Jx (pre++q) W'))
def Uk(Z:List Cn->Cn->Prop)(d:W_)(base au lp:Nat)(g j:JC)(ac:ZL g)(aL:ZL j)(ad:KQ Z d base au lp g j)(aM:d.heap.size<=base)(c:Cn):∀(v:V_)(pre:List Cn)(W:W_),(∀q x r,c.pre=q++x::r->Z (pre++q) x)->CV d v c->g pre W->base<=W.heap.size->(∀k,k<d.heap.size->W.heap[k]?=d.heap[k]?)-> z 228 #[v,.func (.yield lp) #[] #[]] W (Jh d base c g j pre W):=by
 induction c using Cn.ind with
 |h c av=>
  intro v pre W ae hc af aE ab;refine(x9 (n:=3)).1 ?_;obtain⟨A,cap,rfl,aO,aC,aG⟩:=hc.form;unfold m_ at aC;have aw:=(Qf (m':=2) ad);clear ad;have aD:W.heap.size<(W.alloc (.cells (Cs c A cap) 40)).heap.size:=S;have B:G W (W.alloc (.cells (Cs c A cap) 40)):=bA;have ay:f_ (W.alloc (.cells (Cs c A cap) 40)) W.heap.size 40 (Cs c A cap):=(f_.new _ _ _);obtain⟨aH,tmps,assign,body,I,X⟩:=aw pre _ c _ (Q (ae [] c (Cn.jV c.parts) (by rw[pre_eq];rfl))) (ac _ _ _ af B) hc (by have:=B.size;omega) (λk s=>(B.block k U).trans (ab k s));clear af;refine callsIn_of_wp func228 rfl trivial ?_ rfl;simp only[ntmps228,Zg,p8,MV,Nat.reduceAdd,Nat.reduceSub,bi_,bj_,bk_,bl_,Zh,IY];gi_wp2_with fail;refine X.mono ?_;rintro e t ⟨C,(⟨rfl,az⟩|⟨rfl,aq⟩)⟩
  ·have am:f_ t W.heap.size 40 (Cs c A cap):=(C.same W.heap.size aD (.inr aE)).trans ay
   have aI:N t W 4 (.slice A c.parts.length cap):=am.cell 4;have aA:Hid (zA d.heap.size base W t):=O ((zA.below B).trans C);clear C am X I;gi_wp2_with fail;gi_loopw [14] (λi wr=>∃(k:Nat),k<=c.parts.length/\i=.int .i64 k/\Hid (g (pre++c::Cn.jV (c.parts.take k)) wr)/\Hid (zA d.heap.size base W wr)) (λi _=>c.parts.length-(intOf i).toNat);exact⟨0,gL _,rfl,O (by simpa[Cn.jV]using az),aA⟩;obtain⟨k,s,rfl,an,l⟩:=hrel;by_cases aB:k<c.parts.length
   ·obtain⟨b,f,rfl,ao,ar⟩:=aG U
    obtain⟨p,u⟩:=g_ aB;obtain⟨aJ,m,aa⟩:=ar k p u;obtain⟨K,L,rfl⟩:=aa.cells;have o:wr.heap[b]?=d.heap[b]? :=(l.o.same b U (.inl ao)).trans (ab b ao);have ag:N wr b (f+k*5) p.kind:=(He (w:=d) (a:=⟨b,f+k*5,none⟩) o).trans (by have:=m 0 _ rfl;rw[<-this];congr 2;omega);have ah:N wr b (f+k*5+1) (d_ p.name):=(He (w:=d) (a:=⟨b,f+k*5+1,none⟩) o).trans (by have:=m 1 _ rfl;rw[<-this];congr 2;omega);have ai:N wr b (f+k*5+2) p.lo:=(He (w:=d) (a:=⟨b,f+k*5+2,none⟩) o).trans (by have:=m 2 _ rfl;rw[<-this];congr 2;omega);have aj:N wr b (f+k*5+3) p.hi:=(He (w:=d) (a:=⟨b,f+k*5+3,none⟩) o).trans (by have:=m 3 _ rfl;rw[<-this];congr 2;omega);have ak:N wr b (f+k*5+4) (.slice K p.parts.length L):=(He (w:=d) (a:=⟨b,f+k*5+4,none⟩) o).trans (by have:=m 4 _ rfl;rw[<-this];congr 2;omega);have ap:=O u;have aN:W.heap.size<=wr.heap.size:=l.o.size;have r1:(0:Int)<=(k:Int):=U;have aK:(k:Int)<(c.parts.length:Int):=U;have aF:Hid (z 228 #[.agg (Cs p K L),.func (.yield lp) #[] #[]] (wr.alloc (.cells (Cs p K L) 40)) (Jh d base p g j (pre++c::Cn.jV (c.parts.take k)) (wr.alloc (.cells (Cs p K L) 40)))):=O (av p (gM u) _ _ _ (λq y r I=>Q (ae (c::Cn.jV (c.parts.take k)++q) y (r++Cn.jV (c.parts.drop (k+1))) (by rw[pre_eq,Qg u,I];simp))) ⟨_,rfl,aa⟩ (ac _ _ _ an.o bA) (by simp;omega) λk s=>(Uf _ _ _ U).trans ((l.o.same k U (.inl s)).trans (ab k s)));clear ar m aa u o;gi_wp2_with fail;refine⟨trivial,((x9).2 aF.o).mono ?_⟩;rintro e P ⟨T,(⟨rfl,E⟩|⟨rfl,q,r,al,E⟩)⟩;·have F:Hid (zA d.heap.size base W P):=O ((l.o.trans (zA.below bA)).trans T);have H:Hid (g (pre++c::Cn.jV (c.parts.take (k+1))) P):=O (by rw[qm ap.o];simpa using E);clear T E ag ah ai aj ak;gi_wp2_with fail;go_roundw;exact⟨k+1,U,R,H,F⟩;exact M
    ·have F:Hid (zA d.heap.size base W P):=O ((l.o.trans (zA.below bA)).trans T)
     have H:Hid (∃q r,c.pre=q++r/\j (pre++q) P):=O ⟨c::(Cn.jV (c.parts.take k)++q),r++Cn.jV (c.parts.drop (k+1)),by
      have ax:Cn.jV c.parts=Cn.jV (c.parts.take (k+1))++Cn.jV (c.parts.drop (k+1)):=by rw[<-rC,eb_]
      rw[pre_eq,ax,qm ap.o,al];simp,Q E⟩
     clear T E al ag ah ai aj ak;gi_wp2_with fail;go_ret;exact⟨F.o,.inr ⟨rfl,H.o⟩⟩
   ·(obtain rfl:k=c.parts.length:=by omega);gi_wp2_with fail;go_ret;exact⟨l.o,.inl ⟨rfl,by have:=an.o;rw[jh]at this;rw[pre_eq];exact this⟩⟩
  ·have F:Hid (zA d.heap.size base W t):=O ((zA.below B).trans C);have H:Hid (∃q r,c.pre=q++r/\j (pre++q) t):=O ⟨[c],Cn.jV c.parts,by rw[pre_eq];rfl,aq⟩;clear C aq X I;gi_wp2_with fail;go_ret;exact⟨F.o,.inr ⟨rfl,H.o⟩⟩
end
section
open Go.RowKit Go.Shelf Tryz
attribute [local go_sem] Zy
def WV:∀args w,(callFunc 227 args).run prog w=.ok (.enter 227 args) w:=vW func227 (by kernel_rfl) rfl
def Nb(k:Int)(n:St)(lo hi:Int)(A:Option Addr)(len cap:Nat)(w:W_):z 170 #[.agg #[k,d_ n,lo,hi,.slice A len cap]] w λe w'=>e=.returned (.func (.func 227) #[] #[.pointer (some ⟨w.heap.size,0,none⟩)])/\w'=w.alloc (.cells #[k,d_ n,lo,hi,.slice A len cap] 40):=by unfold d_;go_in;go_wp2;go_ret;exact⟨rfl,rfl⟩
def Ul(Z:List Cn->Cn->Prop)(a:W_)(base m lp d:Nat)(f i:JC)(o:ZL f)(y:ZL i)(p:KQ Z a base m lp f i)(E:a.heap.size<=base)(c:Cn)(k:Int)(n:St)(lo hi:Int)(A:Option Addr)(len cap:Nat)(W:W_)(g:f_ W d 40 #[.int .i64 k,d_ n,lo,hi,.slice A len cap])(s:∀q x r,c.pre=q++x::r->Z q x)(hc:CV a (.agg #[.int .i64 k,d_ n,lo,hi,.slice A len cap]) c)(t:f [] W)(F:base<=W.heap.size)(B:∀k,k<a.heap.size->W.heap[k]?=a.heap[k]?):z 227 #[.func (.yield lp) #[] #[],.pointer (some ⟨d,0,none⟩)] W λe j=>(∃v,e=.returned v)/\zA a.heap.size base W j/\(f c.pre j\/∃q r,c.pre=q++r/\i q j):=by
 have H:=O (Uk Z a base m lp f i o y p E c _ [] W (Q s) hc t F B);have c0:N W d 0 k:=g.cell 0;have c1:N W d 1 (d_ n):=g.cell 1;have c2:N W d 2 lo:=g.cell 2;have c3:N W d 3 hi:=g.cell 3;have c4:N W d 4 (.slice A len cap):=g.cell 4;clear o y p t g hc s B;unfold d_ at H c1;go_in;go_wp2_with fail;refine H.o.mono ?_;rintro e l ⟨u,h⟩
 have w:zA a.heap.size base W l/\(f c.pre l\/∃q r,c.pre=q++r/\i q l):=⟨u,by
  rcases h with⟨_,h⟩|⟨_,h⟩;·exact .inl h
  ·exact .inr h⟩
 have C:∃b,e=.returned (.bool b):=(by
  rcases h with⟨h,_⟩|⟨h,_⟩;·exact⟨_,h⟩
  ·exact⟨_,h⟩)
 clear h u;obtain⟨b,rfl⟩:=C;go_wp2;go_end0;exact⟨⟨_,rfl⟩,w.1,w.2⟩
def Nc(B base:Nat)(I:JC)(Ix:Code->JC)(xs:List Cn)(W:W_):Exit->Act->W_->Prop
 | .normal,_,W'=>KeepsFrom base W W'/\zA B (base+2) W W'/\I xs W'
 | .ret,_,W'=>KeepsFrom base W W'/\zA B (base+2) W W'/\Ix .ret xs W'
 | .exit id,_,W'=>KeepsFrom base W W'/\zA B (base+2) W W'/\Ix (.exit id) xs W'
 | .goto t,_,W'=>KeepsFrom base W W'/\zA B (base+2) W W'/\Ix (.goto t) xs W'
 | .panic _,_,_=>False
 | .outgrown,_,_=>False
def qo{B base l:Nat}{W:W_}(a:Obj)(b:B<=l)(c:l<base):zA B base W (W.putObj l a):=⟨by simp[World.putObj],λ_ _ d=>Hf U⟩
def EU{n:Nat}{g:Operand}{ps:Array Tmp}{assign body:Code}{Q:Exit->Act->W_->Prop}{a:Act}{w:W_}(Z:List Cn->Cn->Prop)(f:W_)(c:Cn)(aD:∀q x r,c.pre=q++x::r->Z q x)(ah:Nat)(k:Int)(an:St)(lo hi:Int)(A:Option Addr)(len cap:Nat)(aE:1<=n)(aF:a.eval g=.func (.func 227) #[] #[.pointer (some ⟨ah,0,none⟩)])(aM:ps.size=1)(aw:G f w)(aG:f_ w ah 40 #[k,d_ an,lo,hi,.slice A len cap])(hc:CV f (.agg #[k,d_ an,lo,hi,.slice A len cap]) c)(I:JC)(aj:Code->JC)(L:OwnFrom w.heap.size I)(ai:∀c,OwnFrom w.heap.size (aj c))(aH:I [] w)(ak:V_->Act->W_->Prop)
 (a6:∀(l:Nat)(u:V_)(x:Cn)(W:W_)(ax:Act->W_->Prop),CV f u x->w.heap.size+2<=W.heap.size->(∀a1 j,ak u a1 j->G W j->ax a1 j)->
  assign.wpIn (Fence.wide.inRound l) (n-1-1) prog (Exit.then ax (λ_ _ _=>False)) {tmps:=(ps.zip #[u]).foldl (λt (p,v)=>t.setIfInBounds p v) a.tmps,defers:=[]} W)
 (aN:∀u a1 W aI,ak u a1 W->ak u a1 (W.putObj (w.heap.size+1) aI))
 (a2:∀(l:Nat)(pre:List Cn)(u:V_)(x:Cn)(a1:Act)(W:W_),w.heap.size<=l->Z pre x->I pre W->CV f u x->(∀k,k<f.heap.size->W.heap[k]?=f.heap[k]?)->w.heap.size+2<=W.heap.size->ak u a1 W->body.wpIn (Fence.wide.inRound l) (n-1-1) prog (Nc f.heap.size w.heap.size I aj (pre++[x]) W) a1 W)
 (a4:∀(D:Nat)(W:W_),w.heap.size<=D->I c.pre W->W.heap[D]?=some (.deferred (some []))->Q .normal {a with defers:={target:= .collected D,args:= #[]}::a.defers} W)
 (a5:∀(D:Nat)(m:Code)(q r:List Cn)(W:W_),w.heap.size<=D->c.pre=q++r->aj m q W->W.heap[D]?=some (.deferred (some []))->m.wpIn Fence.wide n prog Q {a with defers:={target:= .collected D,args:= #[]}::a.defers} W):
 (Code.rangeFunc g ps assign body).wpIn Fence.wide n prog Q a w:=by
 refine wpIn_rangeFunc ?_
 intro fn aO
 obtain⟨b,H⟩:∃b:LoopState->Option Code->Loop,b=λst aJ=>{state:=st,pending:=aJ,fn,tmps:=a.tmps,params:=ps,assign,body,defers:=w.heap.size}:=⟨_,rfl⟩
 obtain⟨K,ag⟩:=e_ ((w.alloc (.deferred (some []))).alloc (.loop (b .ready none)))
 have aP:K.heap[w.heap.size+1]?=some (.loop (b .ready none)):=by rw[<-ag];have:=iw_ (w.alloc (.deferred (some []))) (.loop (b .ready none));rwa[World.size_alloc]at this
 have aQ:K.heap[w.heap.size]?=some (.deferred (some [])):=by rw[<-ag];exact(Uf _ _ _ S).trans (iw_ w _)
 have aR:I [] K:=by rw[<-ag];exact L.alloc _ (L.alloc _ aH)
 have aA:G w K:=by rw[<-ag];exact((fD _ w).alloc (fU _) _).alloc S _
 have a9:K.heap.size=w.heap.size+2:=by rw[<-ag];simp
 have a':=aw.size
 refine⟨w.heap.size+1,[{target:= .collected w.heap.size,args:= #[]}],K,{target:= .fn (.func 227) #[.pointer (some ⟨ah,0,none⟩)],args:= #[.func (.yield (w.heap.size+1)) #[] #[]]},K,227,#[.func (.yield (w.heap.size+1)) #[] #[]]++ #[.pointer (some ⟨ah,0,none⟩)],K,?_,?_,λ_ _=>trivial,?_,λ_=>aE,(x9).2 ?_⟩
 ·rw[<-ag,H];exact run_enterLoop_outer _ _ _ _ _
 ·simp only[resolve,aF];simp[go_sem]
 ·simp[invoke,go_sem,WV]
 ·have up:∀{ao:JC},OwnFrom w.heap.size ao->∀s A B,ao s A->Below A.heap.size A B->ao s B:=λh s A B aK i=>h s A B none aK ⟨i.os,i.tape,i.output,i.size,λk d _=>i.block k d⟩ (λr e=>by cases e)
  (have ae:∀{A B:W_}{k:Nat}{o:Obj},A.heap[k]?=some o->G A B->B.heap[k]?=some o:=λh hb=>(hb.block _ (vR.1 h).1).trans h);refine(Ul Z f (w.heap.size+2) (n-1-1) (w.heap.size+1) ah (λpre W=>I pre W/\W.heap[w.heap.size+1]?=some (.loop (b .ready none))/\W.heap[w.heap.size]?=some (.deferred (some []))) (λpre W=>∃m,aj m pre W/\W.heap[w.heap.size+1]?=some (.loop (b .done (some m)))/\W.heap[w.heap.size]?=some (.deferred (some []))) (λs A B ⟨ap,aq,ar⟩ i=>⟨up L s A B ap i,ae aq i,ae ar i⟩) (λs A B ⟨m,ap,aq,ar⟩ i=>⟨m,up (ai m) s A B ap i,ae aq i,ae ar i⟩) ?_ U c k an lo hi A len cap K (aG.below aA) aD hc ⟨aR,aP,aQ⟩ U (λk d=>(aA.block k U).trans (aw.block k d))).mono ?_
  ·rintro pre u x W aS ⟨hi,hl,d⟩ ay aB aC
   have au:=run_yield (P:=prog) (args:= #[u]) hl (by rw[H];exact aM.symm);rw[H]at au;refine⟨fn,_,assign,body,au,roundIn_of_wpIn aO (a6 _ u x W _ ay U ?_)⟩;clear au;intro a1 j aT X;have av:=ae hl X;have aU:=ae d X;have aV:=up L _ _ _ hi X;(have aZ:∀k,k<f.heap.size->j.heap[k]?=f.heap[k]? :=λk d=>(X.block k U).trans (aC k d));have a0:w.heap.size+2<=j.heap.size:=gT aB X.size;have aW:zA f.heap.size (w.heap.size+2) W j:=zA.below X;clear hl d hi aC aB X;have aX:w.heap.size+1<j.heap.size:=(vR.1 av).1;refine⟨_,run_beginRound av (by rw[H]),?_⟩;have hl2:(j.putObj (w.heap.size+1) (.loop {b .ready none with state:= .busy})).heap[w.heap.size+1]?=some (.loop {b .ready none with state:= .busy}):=ix_ aX;have aY:(j.putObj (w.heap.size+1) (.loop {b .ready none with state:= .busy})).heap[w.heap.size]?=some (.deferred (some [])):=(Hf U).trans aU;have al:zA f.heap.size (w.heap.size+2) W (j.putObj (w.heap.size+1) (.loop {b .ready none with state:= .busy})):=aW.trans (qo _ U U);refine wpIn_mono (a2 _ pre u x a1 _ U aS (L.putObj _ aV U av rfl) ay (λk d=>(Hf U).trans (aZ k d)) (by simpa[World.putObj]using a0) (aN _ _ _ _ aT)) ?_;(have am:∀(E:Option Code)(y:W_),KeepsFrom w.heap.size (j.putObj (w.heap.size+1) (.loop {b .ready none with state:= .busy})) y-> (Instr.endRound (w.heap.size+1) E).run prog y=.ok (.bool E.isNone) (y.putObj (w.heap.size+1) (.loop (b (if E.isNone then .ready else .done) E)))/\ y.heap[w.heap.size+1]?=some (.loop {b .ready none with state:= .busy})/\ (y.putObj (w.heap.size+1) (.loop (b (if E.isNone then .ready else .done) E))).heap[w.heap.size+1]?=some (.loop (b (if E.isNone then .ready else .done) E))/\ (y.putObj (w.heap.size+1) (.loop (b (if E.isNone then .ready else .done) E))).heap[w.heap.size]?=some (.deferred (some [])):=λE y F=>by have C:=F.same _ _ U hl2 rfl;have:=run_endRound (P:=prog) E C;rw[H]at this ⊢;exact⟨this,by rw[H]at C;exact C,ix_ (vR.1 C).1,(Hf U).trans (F.same _ _ (fU _) aY rfl)⟩);rintro e a3 y af
   cases e with
   |normal=>
    obtain⟨F,ad,aa⟩:=af;obtain⟨T,C,ab,ac⟩:=am none y F;exact⟨_,_,T,(al.trans ad).trans (qo _ U U),.inl ⟨rfl,L.putObj _ aa U C rfl,ab,ac⟩⟩
   |ret=>
    obtain⟨F,ad,aa⟩:=af;obtain⟨T,C,ab,ac⟩:=am (some .ret) y F;exact⟨_,_,T,(al.trans ad).trans (qo _ U U),.inr ⟨rfl,.ret,(ai _).putObj _ aa U C rfl,ab,ac⟩⟩
   |exit az=>
    obtain⟨F,ad,aa⟩:=af;obtain⟨T,C,ab,ac⟩:=am (some (.exit az)) y F;exact⟨_,_,T,(al.trans ad).trans (qo _ U U),.inr ⟨rfl,.exit az,(ai _).putObj _ aa U C rfl,ab,ac⟩⟩
   |goto t=>
    obtain⟨F,ad,aa⟩:=af;obtain⟨T,C,ab,ac⟩:=am (some (.goto t)) y F;exact⟨_,_,T,(al.trans ad).trans (qo _ U U),.inr ⟨rfl,.goto t,(ai _).putObj _ aa U C rfl,ab,ac⟩⟩
   |panic a7=>exact af.elim
   |outgrown=>exact af.elim
  ·rintro e a8 ⟨⟨v,rfl⟩,_,(⟨hi,hl,d⟩|⟨q,r,aL,m,hi,hl,d⟩)⟩;(·exact⟨none,_,by have:=iy_ (P:=prog) hl (by rw[H];simp);rw[H]at this;exact this,a4 _ _ (fU _) (L.putObj _ hi U hl rfl) ((Hf U).trans d)⟩);·exact⟨some m,_,by have:=iy_ (P:=prog) hl (by rw[H];simp);rw[H]at this;exact this,a5 _ m q r _ (fU _) aL ((ai m).putObj _ hi U hl rfl) ((Hf U).trans d)⟩
end
end Go.Proofs.YtjmbkfjklemmpaaGreatDoor
namespace Go.Proofs
open Tryz
def fH{α:Type}{x:Option α}{a b:α}(h:x=some a)(e:a=b):x=some b:=h.trans (qQ some e)
open Go.Shelf
def Tryz.CG:Go.Shelf.Ren:=⟨λ|169=>222|n=>n,λ|70=>277|9=>9|0=>0|72=>280|37=>278|127=>330|3=>3|5=>5|n=>n,λ|n=>n⟩
def Tryz.xE:Go.Proofs.Lays.n169 prog Tryz.CG:={mixed:=by kernel_rfl,f169:=fH func222 (by kernel_rfl),t0:=underlying0,a0:=isAgg0,z0:=sizeOf0,v0:=zeroValue0,t3:=underlying3,a3:=isAgg3,z3:=sizeOf3,v3:=zeroValue3,t9:=underlying9,a9:=isAgg9,z9:=sizeOf9,v9:=zeroValue9,t37:=underlying278,a37:=isAgg278,z37:=sizeOf278,v37:=zeroValue278,t70:=underlying277,a70:=isAgg277,z70:=sizeOf277,v70:=zeroValue277,t72:=underlying280,a72:=isAgg280,z72:=sizeOf280,v72:=zeroValue280,t127:=underlying330,a127:=isAgg330,z127:=sizeOf330,v127:=zeroValue330}
def Tryz.nN:Builder.Extra prog Tryz.CG:={sizeBuilder:=by kernel_rfl,liesBuilder:=by kernel_rfl,t5:=underlying5,a5:=isAgg5,z5:=sizeOf5,v5:=zeroValue5,infoByte:=by kernel_rfl,cellsByte:=by kernel_rfl,sizeByte:=by kernel_rfl,neB5:=by decide}
open Go.RowKit in
def Tryz.Builder_String_any(B b:Nat)(l:List UInt8)(w:W_)(h:Lib.IsBuilder 280 5 B b (Lib.byteCells l) w)(a:B<=w.heap.size):Calls prog 222 #[.pointer (some ⟨b,0,none⟩)] w λe w'=>e=.returned (.string ⟨l.toArray⟩)/\Below B w w':=Any.Builder_String_any Tryz.xE Tryz.nN B b l w h a
def Tryz.Nf:Go.Shelf.Ren:=⟨λ|122=>63|215=>113|n=>n,λ|3=>3|4=>4|n=>n,λ|n=>n⟩
def Tryz.KR:Go.Proofs.Lays.n122 prog Tryz.Nf:={Tryz.xE with mixed:=by kernel_rfl,f122:=fH func63 (by kernel_rfl),f215:=fH func113 (by kernel_rfl),t4:=underlying4,a4:=isAgg4,z4:=sizeOf4,v4:=zeroValue4}
open Go.RowKit in
def Tryz.cmp_Compare_int(x y:Int)(w:W_):Calls prog 63 #[.int .i64 x,.int .i64 y] w λe w'=>e=.returned (.int .i64 (Lib.compareInt x y))/\w'=w:=Any.cmp_Compare_int Tryz.KR x y w
def Tryz.KU:Go.Shelf.Ren:=⟨λ|171=>220|243=>268|246=>303|283=>321|284=>322|285=>323|286=>324|129=>112|317=>351|318=>352|319=>353|320=>354|337=>363|338=>364|n=>n,λ|3=>3|9=>9|2=>2|4=>4|171=>386|0=>0|53=>177|37=>278|5=>5|173=>388|212=>399|51=>175|20=>20|213=>400|46=>111|232=>408|233=>409|n=>n,λ|17=>4|18=>5|19=>6|n=>n⟩
def Tryz.oN:Go.Proofs.LaysM.n171 prog Tryz.KU:={Tryz.xE,Tryz.nN,Tryz.KR with mixed:=by kernel_rfl,f129:=fH func112 (by kernel_rfl),f171:=fH func220 (by kernel_rfl),f243:=fH func268 (by kernel_rfl),f246:=fH func303 (by kernel_rfl),f283:=fH func321 (by kernel_rfl),f284:=fH func322 (by kernel_rfl),f285:=fH func323 (by kernel_rfl),f286:=fH func324 (by kernel_rfl),f317:=fH func351 (by kernel_rfl),f318:=fH func352 (by kernel_rfl),f319:=fH func353 (by kernel_rfl),f320:=fH func354 (by kernel_rfl),f337:=fH func363 (by kernel_rfl),f338:=fH func364 (by kernel_rfl),t2:=underlying2,a2:=isAgg2,z2:=sizeOf2,v2:=zeroValue2,t20:=underlying20,a20:=isAgg20,z20:=sizeOf20,v20:=zeroValue20,t46:=underlying111,a46:=isAgg111,z46:=sizeOf111,v46:=zeroValue111,t51:=underlying175,a51:=isAgg175,z51:=sizeOf175,v51:=zeroValue175,t53:=underlying177,a53:=isAgg177,z53:=sizeOf177,v53:=zeroValue177,t171:=underlying386,a171:=isAgg386,z171:=sizeOf386,v171:=zeroValue386,t173:=underlying388,a173:=isAgg388,z173:=sizeOf388,v173:=zeroValue388,t212:=underlying399,a212:=isAgg399,z212:=sizeOf399,v212:=zeroValue399,t213:=underlying400,a213:=isAgg400,z213:=sizeOf400,t232:=underlying408,a232:=isAgg408,z232:=sizeOf408,v232:=zeroValue408,t233:=underlying409,a233:=isAgg409,z233:=sizeOf409,v233:=zeroValue409,g17:=by kernel_rfl,g18:=by kernel_rfl,g19:=by kernel_rfl,i0:=by kernel_rfl,i2:=by kernel_rfl,i3:=by kernel_rfl,i4:=by kernel_rfl,i5:=by kernel_rfl,i9:=by kernel_rfl,i20:=by kernel_rfl,i37:=by kernel_rfl,i46:=by kernel_rfl,i51:=by kernel_rfl,i53:=by kernel_rfl,i171:=by kernel_rfl,i173:=by kernel_rfl,i212:=by kernel_rfl,i232:=by kernel_rfl,i233:=by kernel_rfl,m17:=by kernel_rfl,m18:=by kernel_rfl,m19:=by kernel_rfl}
open Go.RowKit Go.Sort Go.Lib in
def Tryz.strconv_Itoa(n:Int)(a: -9223372036854775808<=n)(b:n<=9223372036854775807)(w:W_)(c:Lib.TabIs prog w "internal/strconv.uint64pow10" .u64 Lib.pow10Tab):Calls prog 220 #[.int .i64 n] w λe w'=>e=.returned (.string ⟨(Lib.itoa n).toArray⟩)/\∃k os,w'=grow (w.drewN k) os:=Any.strconv_Itoa Tryz.oN n a b w c
def Tryz.Ng:Go.Shelf.Ren:=⟨λ|189=>152|125=>62|257=>218|128=>111|129=>112|294=>259|295=>260|296=>261|297=>262|298=>263|299=>264|216=>93|300=>265|301=>266|328=>299|329=>162|330=>163|331=>300|332=>301|215=>113|343=>320|n=>n,λ|28=>25|3=>3|46=>111|0=>0|51=>175|53=>177|4=>4|183=>169|182=>168|131=>98|5=>5|9=>9|218=>239|222=>243|228=>288|229=>289|n=>n,λ|n=>n⟩
def Tryz.Eb:Go.Proofs.Lays.n189 prog Tryz.Ng:={Tryz.oN with mixed:=by kernel_rfl,f125:=fH func62 (by kernel_rfl),f128:=fH func111 (by kernel_rfl),f129:=fH func112 (by kernel_rfl),f189:=fH func152 (by kernel_rfl),f215:=fH func113 (by kernel_rfl),f216:=fH func93 (by kernel_rfl),f257:=fH func218 (by kernel_rfl),f294:=fH func259 (by kernel_rfl),f295:=fH func260 (by kernel_rfl),f296:=fH func261 (by kernel_rfl),f297:=fH func262 (by kernel_rfl),f298:=fH func263 (by kernel_rfl),f299:=fH func264 (by kernel_rfl),f300:=fH func265 (by kernel_rfl),f301:=fH func266 (by kernel_rfl),f328:=fH func299 (by kernel_rfl),f329:=fH func162 (by kernel_rfl),f330:=fH func163 (by kernel_rfl),f331:=fH func300 (by kernel_rfl),f332:=fH func301 (by kernel_rfl),f343:=fH func320 (by kernel_rfl),t28:=underlying25,a28:=isAgg25,z28:=sizeOf25,v28:=zeroValue25,t131:=underlying98,a131:=isAgg98,z131:=sizeOf98,v131:=zeroValue98,t182:=underlying168,a182:=isAgg168,z182:=sizeOf168,v182:=zeroValue168,t183:=underlying169,a183:=isAgg169,z183:=sizeOf169,v183:=zeroValue169,t218:=underlying239,a218:=isAgg239,z218:=sizeOf239,v218:=zeroValue239,t222:=underlying243,a222:=isAgg243,z222:=sizeOf243,v222:=zeroValue243,t228:=underlying288,a228:=isAgg288,z228:=sizeOf288,v228:=zeroValue288,t229:=underlying289,a229:=isAgg289,z229:=sizeOf289,v229:=zeroValue289}
open Go.Sort Go.RowKit in
def Tryz.slices_Sort_int(blk a cap:Nat)(zs:List Int)(w:W_)(b:Holds (Value.int .i64) w blk a zs.toArray)(d:blk<w.heap.size)(c:zs.length<4611686018427387904):Calls prog 152 #[.slice (some ⟨blk,a,none⟩) zs.length cap] w λe w'=>e=.returned (.tuple #[])/\∃n os,w'=grow (putRow (Value.int .i64) (Sort.ahead w n) blk a (zs.mergeSort λx y=>decide (x<=y)).toArray) os:=Any.slices_Sort_int Tryz.Eb blk a cap zs w b d c
def Tryz.Hy:Go.Shelf.Ren:=⟨λ|15=>54|n=>n,λ|22=>25|3=>3|4=>4|n=>n,λ|n=>n⟩
def Tryz.Bh:Go.Proofs.Lays2.n15 prog Tryz.Hy:={Tryz.KR with mixed:=by kernel_rfl,f15:=fH func54 (by kernel_rfl),t22:=underlying25,a22:=isAgg25,z22:=sizeOf25,v22:=zeroValue25,i3:=by kernel_rfl}
open Go.RowKit Go.Lib in
def Tryz.uy(a:Addr)(c:Nat)(w:W_):Calls prog 54 #[.slice (some a) 0 c] w λe w'=>∃v',e=.returned v'/\w'.ownsRow w.heap.size 3 1 v' 0 []/\v'≠.slice none 0 0/\Below w.heap.size w w':=Any.slices_Clone_int_zero Tryz.Bh a c w
def Tryz.Hz:Go.Shelf.Ren:=⟨λ|25=>52|31=>93|32=>94|37=>113|n=>n,λ|22=>25|3=>3|4=>4|40=>111|0=>0|n=>n,λ|n=>n⟩
def Tryz.xG:Go.Proofs.Lays2.n25 prog Tryz.Hz:={Tryz.Bh,Tryz.xE with mixed:=by kernel_rfl,f25:=fH func52 (by kernel_rfl),f31:=fH func93 (by kernel_rfl),f32:=fH func94 (by kernel_rfl),f37:=fH func113 (by kernel_rfl),t40:=underlying111,a40:=isAgg111,z40:=sizeOf111,v40:=zeroValue111}
open Go.RowKit Go.Lib in
def Tryz.slices_BinarySearch_int(b a n c:Nat)(zs:List Int)(x:Int)(w:W_)(d:n<=zs.length)(g:n<4611686018427387904)(hc:∀j,j<zs.length->w.cell? ⟨b,a+j,none⟩=some (.int .i64 (zs.getD j 0)))(f:(zs.take n).Pairwise (·<= ·)):Calls prog 52 #[.slice (some ⟨b,a,none⟩) n c,.int .i64 x] w λe w'=>e=.returned (.tuple #[.int .i64 ((zs.take n).countP (·<x):Nat),.bool ((zs.take n).contains x)])/\∃q,w'=w.drewN q:=Any.slices_BinarySearch_int Tryz.xG b a n c zs x w d g hc f
open Go.RowKit Go.Sort in
def Tryz.slices_Sort_int_none(p:Option Addr)(cap:Nat)(w:W_):Calls prog 152 #[.slice p 0 cap] w λe w'=>e=.returned (.tuple #[])/\w'=w:=Any.slices_Sort_int_none Tryz.Eb p cap w
open Go.RowKit Go.Lib in
def Tryz.slices_BinarySearch_int_empty(a:Option Addr)(c:Nat)(x:Int)(w:W_):Calls prog 52 #[.slice a 0 c,.int .i64 x] w λe w'=>e=.returned (.tuple #[.int .i64 0,.bool false])/\w'=w:=Any.slices_BinarySearch_int_empty Tryz.xG a c x w
def Tryz.yU:Go.Shelf.Ren:=⟨λ|41=>54|n=>n,λ|22=>25|23=>3|4=>4|n=>n,λ|n=>n⟩
def Tryz.wm:Go.Proofs.SlLaysE0.n41 prog Tryz.yU:={Tryz.Bh with mixed:=by kernel_rfl,f41:=⟨Tryz.f54.name,by decide,fH func54 (by kernel_rfl)⟩}
open Go.RowKit Go.Lib in
def Tryz.HV(i0:TypeInfo)(z:V_)(size bytes:Nat)(hi:prog.info? 3=some i0)(h:i0.zero=some z)(i:i0.size=size)(k:i0.bytes=bytes)(l:z.cells.size=size)(m:0<size)(o:∀w,(Go.sizeOf 3).run prog w=.ok size w)(b d n c:Nat)(a:List V_)(w:W_)(hl:a.length=n*size)(f:n<=m_)(p:n*bytes<=140737488355328)(hc:∀j u,a[j]?=some u->w.cell? ⟨b,d+j,none⟩=some u)(g:∀u∈a,u.oneCell'=true):Calls prog 54 #[.slice (some ⟨b,d,none⟩) n c] w λe w'=>∃v',e=.returned v'/\w'.ownsRow w.heap.size 3 size v' n a/\v'≠.slice none 0 0/\Below w.heap.size w w':=AnyE.slices_Clone Tryz.wm i0 z size bytes hi h i k l m o b d n c a w hl f p hc g
open Go.RowKit Go.Lib in
def Tryz.zL(n c:Nat)(w:W_):Calls prog 54 #[.slice none n c] w λe w'=>e=.returned (.slice none 0 0)/\w'=w:=AnyE.slices_Clone_nil Tryz.wm n c w
def Tryz.Bj:Go.Shelf.Ren:=⟨λ|6=>30|15=>62|14=>61|28=>111|29=>112|20=>103|21=>104|22=>105|23=>106|24=>107|25=>108|26=>109|27=>110|46=>161|47=>162|48=>163|49=>164|50=>165|57=>223|n=>n,λ|22=>28|24=>25|25=>66|3=>3|39=>111|0=>0|53=>175|55=>177|4=>4|46=>169|45=>168|50=>98|5=>5|9=>9|66=>239|70=>243|76=>288|77=>289|n=>n,λ|n=>n⟩
def Tryz.pQ:Go.Proofs.SlLaysF.n6 prog Tryz.Bj:={Tryz.oN with mixed:=by kernel_rfl,f6:=⟨Tryz.f30.name,by decide,fH func30 (by kernel_rfl)⟩,f14:=⟨Tryz.f61.name,by decide,fH func61 (by kernel_rfl)⟩,f15:=fH func62 (by kernel_rfl),f20:=⟨f103.name,by decide,fH func103 (by kernel_rfl)⟩,f21:=⟨f104.name,by decide,fH func104 (by kernel_rfl)⟩,f22:=⟨f105.name,by decide,fH func105 (by kernel_rfl)⟩,f23:=⟨f106.name,by decide,fH func106 (by kernel_rfl)⟩,f24:=⟨f107.name,by decide,fH func107 (by kernel_rfl)⟩,f25:=⟨f108.name,by decide,fH func108 (by kernel_rfl)⟩,f26:=⟨f109.name,by decide,fH func109 (by kernel_rfl)⟩,f27:=⟨f110.name,by decide,fH func110 (by kernel_rfl)⟩,f28:=fH func111 (by kernel_rfl),f29:=fH func112 (by kernel_rfl),f46:=⟨f161.name,by decide,fH func161 (by kernel_rfl)⟩,f47:=fH func162 (by kernel_rfl),f48:=fH func163 (by kernel_rfl),f49:=⟨f164.name,by decide,fH func164 (by kernel_rfl)⟩,f50:=⟨f165.name,by decide,fH func165 (by kernel_rfl)⟩,f57:=⟨f223.name,by decide,fH func223 (by kernel_rfl)⟩,t22:=underlying28,a22:=isAgg28,z22:=sizeOf28,v22:=zeroValue28,a24:=isAgg25,z24:=sizeOf25,t25:=underlying66,a25:=isAgg66,z25:=sizeOf66,v25:=zeroValue66,t39:=underlying111,a39:=isAgg111,z39:=sizeOf111,v39:=zeroValue111,t45:=underlying168,a45:=isAgg168,z45:=sizeOf168,v45:=zeroValue168,t46:=underlying169,a46:=isAgg169,z46:=sizeOf169,v46:=zeroValue169,t50:=underlying98,a50:=isAgg98,z50:=sizeOf98,v50:=zeroValue98,t53:=underlying175,a53:=isAgg175,z53:=sizeOf175,v53:=zeroValue175,t55:=underlying177,a55:=isAgg177,z55:=sizeOf177,v55:=zeroValue177,t66:=underlying239,a66:=isAgg239,z66:=sizeOf239,v66:=zeroValue239,t70:=underlying243,a70:=isAgg243,z70:=sizeOf243,v70:=zeroValue243,t76:=underlying288,a76:=isAgg288,z76:=sizeOf288,v76:=zeroValue288,t77:=underlying289,a77:=isAgg289,z77:=sizeOf289,v77:=zeroValue289}
open Go.RowKit Go.Lib Go.Sort in
def Tryz.rD{α:Type}[Inhabited α](enc:α->V_)(c:OneCell enc)(b:α->α->Int)(f:SWO (ltOf b))(g:Nat)(cb:Array V_)(blk a cap:Nat)(d:Array α)(w:W_)(h:∀args w,(callFunc g args).run prog w=.ok (.enter g args) w)(k:CmpLays1 prog g cb enc b blk a d.size w)(i:Holds enc w blk a d)(l:blk<w.heap.size)(j:d.size<4611686018427387904):Calls prog 30 #[.slice (some ⟨blk,a,none⟩) d.size cap,.func (.func g) #[] cb] w λe w'=>e=.returned (.tuple #[])/\∃d' n os,PermIn 0 d.size d d'/\SortedIn (ltOf b) 0 d.size d'/\w'=sortWorld enc w blk a n d' os:=Any.slices_SortFunc Tryz.pQ enc c b f g cb blk a cap d w h k i l j
def Tryz.zM:Go.Shelf.Ren:=⟨λ|6=>30|15=>62|14=>61|28=>111|29=>112|20=>103|21=>104|22=>105|23=>106|24=>107|25=>108|26=>109|27=>110|46=>161|47=>162|48=>163|49=>164|50=>165|57=>223|n=>n,λ|22=>28|24=>25|25=>66|3=>3|39=>111|0=>0|53=>175|55=>177|4=>4|46=>169|45=>168|50=>98|5=>5|9=>9|66=>239|70=>243|76=>288|77=>289|n=>n,λ|n=>n⟩
def Tryz.HY:Go.Proofs.SlLaysF0.n6 prog Tryz.zM:={Tryz.pQ with mixed:=by kernel_rfl,f6:=⟨Tryz.f30.name,by decide,fH func30 (by kernel_rfl)⟩,f14:=⟨Tryz.f61.name,by decide,fH func61 (by kernel_rfl)⟩,f15:=fH func62 (by kernel_rfl),f20:=⟨f103.name,by decide,fH func103 (by kernel_rfl)⟩,f21:=⟨f104.name,by decide,fH func104 (by kernel_rfl)⟩,f22:=⟨f105.name,by decide,fH func105 (by kernel_rfl)⟩,f23:=⟨f106.name,by decide,fH func106 (by kernel_rfl)⟩,f24:=⟨f107.name,by decide,fH func107 (by kernel_rfl)⟩,f25:=⟨f108.name,by decide,fH func108 (by kernel_rfl)⟩,f26:=⟨f109.name,by decide,fH func109 (by kernel_rfl)⟩,f27:=⟨f110.name,by decide,fH func110 (by kernel_rfl)⟩,f28:=fH func111 (by kernel_rfl),f29:=fH func112 (by kernel_rfl),f46:=⟨f161.name,by decide,fH func161 (by kernel_rfl)⟩,f47:=fH func162 (by kernel_rfl),f48:=fH func163 (by kernel_rfl),f49:=⟨f164.name,by decide,fH func164 (by kernel_rfl)⟩,f50:=⟨f165.name,by decide,fH func165 (by kernel_rfl)⟩,f57:=⟨f223.name,by decide,fH func223 (by kernel_rfl)⟩}
open Go.RowKit Go.Lib Go.Sort in
def Tryz.nO{α:Type}[Inhabited α](p:Option Addr)(cap:Nat)(a:V_)(w:W_):Calls prog 30 #[.slice p 0 cap,a] w λe w'=>e=.returned (.tuple #[])/\w'=w:=hh_ Tryz.HY p cap a w
open Go.RowKit Go.Lib Go.Sort in
def Tryz.DI:Go.Shelf.Ren:=⟨λ|21=>53|27=>95|28=>96|35=>157|39=>136|n=>n,λ|22=>25|3=>3|4=>4|0=>0|n=>n,λ|n=>n⟩
def Tryz.oO:Go.Proofs.Lays2.n21 prog Tryz.DI:={Tryz.xG with mixed:=by kernel_rfl,f21:=fH func53 (by kernel_rfl),f27:=fH func95 (by kernel_rfl),f28:=fH func96 (by kernel_rfl),f35:=fH func157 (by kernel_rfl),f39:=fH func136 (by kernel_rfl),i3:=by kernel_rfl}
end Go.Proofs
namespace Go.Proofs
open Go.Shelf Tryz
def Tryz.CJ:Go.Shelf.Ren:=⟨λ|156=>308|165=>330|166=>219|169=>222|240=>267|241=>357|276=>302|277=>365|n=>n,λ|31=>41|9=>9|3=>3|4=>4|0=>0|20=>20|72=>280|76=>283|70=>277|37=>278|75=>282|127=>330|164=>364|5=>5|80=>287|n=>n,λ|n=>n⟩
def Tryz.Ec:Go.Proofs.Lays.n156 prog Tryz.CJ:={Tryz.xE,Tryz.oN with mixed:=by kernel_rfl,f156:=fH func308 (by kernel_rfl),f165:=fH func330 (by kernel_rfl),f166:=fH func219 (by kernel_rfl),f169:=fH func222 (by kernel_rfl),f240:=fH func267 (by kernel_rfl),f241:=fH func357 (by kernel_rfl),f276:=fH func302 (by kernel_rfl),f277:=fH func365 (by kernel_rfl),t31:=underlying41,a31:=isAgg41,z31:=sizeOf41,v31:=zeroValue41,t75:=underlying282,a75:=isAgg282,z75:=sizeOf282,v75:=zeroValue282,t76:=underlying283,a76:=isAgg283,z76:=sizeOf283,v76:=zeroValue283,t164:=underlying364,a164:=isAgg364,z164:=sizeOf364,v164:=zeroValue364}
def Tryz.rE:Builder.Extra prog Tryz.CJ:={Tryz.nN with sizeBuilder:=by kernel_rfl,liesBuilder:=by kernel_rfl,infoByte:=by kernel_rfl,cellsByte:=by kernel_rfl,sizeByte:=by kernel_rfl,neB5:=by decide}
open Go.RowKit in
def Tryz.strings_Join_none(a:Option Addr)(c:Nat)(b:ByteArray)(w:W_):Calls prog 308 #[.slice a 0 c,.string b] w λe w'=>e=.returned (.string ⟨#[]⟩)/\w'=w:=Any.strings_Join_none Tryz.Ec Tryz.rE a c b w
open Go.RowKit in
def Tryz.strings_Join(bk o c:Nat)(a:List ByteArray)(b:ByteArray)(w:W_)(i:∀(j:Nat) x,a[j]?=some x->w.cell? ⟨bk,o+j,none⟩=some (.string x))(f:bk<w.heap.size)(d:a.length<=140737488355328)(g:a.length<=c)(h:(Lib.join (a.map (·.data.toList)) b.data.toList).length<=140737488355328):Calls prog 308 #[.slice (some ⟨bk,o,none⟩) a.length c,.string b] w λe w'=>e=.returned (.string ⟨(Lib.join (a.map (·.data.toList)) b.data.toList).toArray⟩)/\Below w.heap.size w w':=Any.strings_Join Tryz.Ec Tryz.rE bk o c a b w i f d g h
def Tryz.Nh:Go.Shelf.Ren:=⟨λ|106=>77|213=>129|265=>187|n=>n,λ|9=>9|3=>3|n=>n,λ|n=>n⟩
def Tryz.ZM:Go.Proofs.Lays.n106 prog Tryz.Nh:={Tryz.xE with mixed:=by kernel_rfl,f106:=fH func77 (by kernel_rfl),f213:=fH func129 (by kernel_rfl),f265:=fH func187 (by kernel_rfl)}
open Go.RowKit in
def Tryz.strings_Compare(a b:ByteArray)(w:W_):Calls prog 77 #[.string a,.string b] w λe w'=>e=.returned (.int .i64 (Lib.compareBytes a.data.toList b.data.toList))/\w'=w:=Any.strings_Compare Tryz.ZM a b w
def Tryz.Ni:Go.Shelf.Ren:=⟨λ|190=>189|125=>62|258=>241|128=>111|129=>112|302=>283|303=>284|304=>285|305=>286|306=>287|307=>288|308=>192|309=>289|310=>290|333=>309|329=>162|330=>163|334=>310|335=>311|336=>186|344=>331|n=>n,λ|31=>41|9=>9|3=>3|46=>111|0=>0|51=>175|53=>177|4=>4|183=>169|182=>168|131=>98|5=>5|218=>239|222=>243|228=>288|229=>289|n=>n,λ|n=>n⟩
def Tryz.KV:Go.Proofs.Lays.n190 prog Tryz.Ni:={Tryz.Eb,Tryz.Ec with mixed:=by kernel_rfl,f125:=fH func62 (by kernel_rfl),f128:=fH func111 (by kernel_rfl),f129:=fH func112 (by kernel_rfl),f190:=fH func189 (by kernel_rfl),f258:=fH func241 (by kernel_rfl),f302:=fH func283 (by kernel_rfl),f303:=fH func284 (by kernel_rfl),f304:=fH func285 (by kernel_rfl),f305:=fH func286 (by kernel_rfl),f306:=fH func287 (by kernel_rfl),f307:=fH func288 (by kernel_rfl),f308:=fH func192 (by kernel_rfl),f309:=fH func289 (by kernel_rfl),f310:=fH func290 (by kernel_rfl),f329:=fH func162 (by kernel_rfl),f330:=fH func163 (by kernel_rfl),f333:=fH func309 (by kernel_rfl),f334:=fH func310 (by kernel_rfl),f335:=fH func311 (by kernel_rfl),f336:=fH func186 (by kernel_rfl),f344:=fH func331 (by kernel_rfl)}
open Go.Sort Go.RowKit in
def Tryz.slices_Sort_string(blk a cap:Nat)(ss:List (List UInt8))(w:W_)(b:Holds encStr w blk a ss.toArray)(d:blk<w.heap.size)(c:ss.length<4611686018427387904):Calls prog 189 #[.slice (some ⟨blk,a,none⟩) ss.length cap] w λe w'=>e=.returned (.tuple #[])/\∃n os,w'=grow (putRow encStr (Sort.ahead w n) blk a (ss.mergeSort λx y=>decide (x<=y)).toArray) os:=Any.slices_Sort_string Tryz.KV blk a cap ss w b d c
def Tryz.Qh:Go.Shelf.Ren:=⟨λ|99=>86|206=>150|n=>n,λ|9=>9|4=>4|3=>3|n=>n,λ|n=>n⟩
def Tryz.abG:Go.Proofs.Lays.n99 prog Tryz.Qh:={Tryz.oN with mixed:=by kernel_rfl,f99:=fH func86 (by kernel_rfl),f206:=fH func150 (by kernel_rfl)}
open Go.RowKit Go.Lib in
def Tryz.strings_HasPrefix(s p:ByteArray)(w:W_):Calls prog 86 #[.string s,.string p] w λe w'=>e=.returned (.bool (Lib.hasPrefix s.data.toList p.data.toList))/\w'=w:=Any.strings_HasPrefix Tryz.abG s p w
def Tryz.KW:Go.Shelf.Ren:=⟨λ|146=>292|221=>314|268=>348|138=>349|143=>350|195=>360|197=>361|218=>362|219=>304|260=>366|217=>325|225=>326|224=>327|267=>328|266=>355|314=>356|n=>n,λ|9=>9|31=>41|3=>3|4=>4|0=>0|105=>405|21=>21|5=>5|46=>111|119=>410|139=>413|138=>412|146=>401|51=>175|n=>n,λ|1=>1|3=>7|4=>8|n=>n⟩
def Tryz.Nj:Go.Proofs.LaysM.n146 prog Tryz.KW:={Tryz.KV with mixed:=by kernel_rfl,f138:=fH func349 (by kernel_rfl),f143:=fH func350 (by kernel_rfl),f146:=fH func292 (by kernel_rfl),f195:=fH func360 (by kernel_rfl),f197:=fH func361 (by kernel_rfl),f217:=fH func325 (by kernel_rfl),f218:=fH func362 (by kernel_rfl),f219:=fH func304 (by kernel_rfl),f221:=fH func314 (by kernel_rfl),f224:=fH func327 (by kernel_rfl),f225:=fH func326 (by kernel_rfl),f260:=fH func366 (by kernel_rfl),f266:=fH func355 (by kernel_rfl),f267:=fH func328 (by kernel_rfl),f268:=fH func348 (by kernel_rfl),f314:=fH func356 (by kernel_rfl),t21:=underlying21,a21:=isAgg21,z21:=sizeOf21,v21:=zeroValue21,t105:=underlying405,a105:=isAgg405,z105:=sizeOf405,v105:=zeroValue405,t119:=underlying410,a119:=isAgg410,z119:=sizeOf410,t138:=underlying412,a138:=isAgg412,z138:=sizeOf412,v138:=zeroValue412,t139:=underlying413,a139:=isAgg413,z139:=sizeOf413,v139:=zeroValue413,t146:=underlying401,a146:=isAgg401,z146:=sizeOf401,v146:=zeroValue401,g1:=by kernel_rfl,g3:=by kernel_rfl,g4:=by kernel_rfl,i0:=by kernel_rfl,i3:=by kernel_rfl,i4:=by kernel_rfl,i5:=by kernel_rfl,i9:=by kernel_rfl,i21:=by kernel_rfl,i31:=by kernel_rfl,i46:=by kernel_rfl,i51:=by kernel_rfl,i105:=by kernel_rfl,i138:=by kernel_rfl,i139:=by kernel_rfl,i146:=by kernel_rfl,m1:=by kernel_rfl,s1_3:=λw h=>Go.Proofs.cell_of_shapedOpen_int (zero:= #[.int .i64 0]) (t:=3) h (I4 (by kernel_rfl)) (by kernel_rfl) rfl (by kernel_rfl) (by kernel_rfl) underlying3,m3:=by kernel_rfl,m4:=by kernel_rfl}
open Go.RowKit Go.Lib in
open Go.Lib in
open Go.Lib in
def Tryz.Nk:Go.Shelf.Ren:=⟨λ|112=>136|n=>n,λ|28=>25|3=>3|4=>4|0=>0|n=>n,λ|n=>n⟩
def Tryz.Te:Go.Proofs.Lays.n112 prog Tryz.Nk:={Tryz.Eb with mixed:=by kernel_rfl,f112:=fH func136 (by kernel_rfl)}
open Go.RowKit Go.Lib Go.Sort in
def Tryz.slices_Reverse_int(blk a cap:Nat)(zs:List Int)(w:W_)(b:Holds (Value.int .i64) w blk a zs.toArray)(c:zs.length<=9223372036854775807):Calls prog 136 #[.slice (some ⟨blk,a,none⟩) zs.length cap] w λe w'=>e=.returned (.tuple #[])/\∃n,w'=putRow (Value.int .i64) (Sort.ahead w n) blk a zs.reverse.toArray:=Any.slices_Reverse_int Tryz.Te blk a cap zs w b c
open Go.RowKit Go.Lib Go.Sort in
def Tryz.slices_Reverse_int_empty(a:Option Addr)(cap:Nat)(w:W_):Calls prog 136 #[.slice a 0 cap] w λe w'=>e=.returned (.tuple #[])/\w'=w:=Any.slices_Reverse_int_empty Tryz.Te a cap w
def Tryz.HZ:Go.Shelf.Ren:=⟨λ|16=>200|n=>n,λ|24=>41|9=>9|4=>4|n=>n,λ|n=>n⟩
def Tryz.xH:Go.Proofs.Lays2.n16 prog Tryz.HZ:={Tryz.oN with mixed:=by kernel_rfl,f16:=fH func200 (by kernel_rfl),t24:=underlying41,a24:=isAgg41,z24:=sizeOf41,v24:=zeroValue41,i9:=by kernel_rfl}
open Go.RowKit Go.Lib in
def Tryz.slices_Clone_string(b a n c:Nat)(zs:List ByteArray)(w:W_)(d:n<=zs.length)(f:n*16<=140737488355328)(hc:∀j,j<zs.length->w.cell? ⟨b,a+j,none⟩=some (.string (zs.getD j ByteArray.empty))):Calls prog 200 #[.slice (some ⟨b,a,none⟩) n c] w λe w'=>∃v',e=.returned v'/\w'.ownsRow w.heap.size 9 1 v' n ((zs.take n).map (Value.string))/\v'≠.slice none 0 0/\Below w.heap.size w w':=Any.slices_Clone_string Tryz.xH b a n c zs w d f hc
open Go.RowKit Go.Lib in
def Tryz.slices_Clone_string_nil(n c:Nat)(w:W_):Calls prog 200 #[.slice none n c] w λe w'=>e=.returned (.slice none 0 0)/\w'=w:=Any.slices_Clone_string_nil Tryz.xH n c w
open Go.RowKit Go.Lib in
def Tryz.Nl:Go.Shelf.Ren:=⟨λ|194=>202|n=>n,λ|31=>41|9=>9|3=>3|4=>4|0=>0|n=>n,λ|n=>n⟩
def Tryz.ZN:Go.Proofs.Lays.n194 prog Tryz.Nl:={Tryz.Ec with mixed:=by kernel_rfl,f194:=fH func202 (by kernel_rfl)}
open Go.RowKit Go.Lib Go.Sort in
open Go.RowKit Go.Lib Go.Sort in
def Tryz.slices_Compact_string(blk a cap:Nat)(zs:List (List UInt8))(w:W_)(b:Holds encStr w blk a zs.toArray)(c:zs.length<=9223372036854775807)(d:zs.length<=cap):Calls prog 202 #[.slice (some ⟨blk,a,none⟩) zs.length cap] w λe w'=>e=.returned (.slice (some ⟨blk,a,none⟩) (Lib.compact zs).length cap)/\∃q,w'=putRow encStr (Sort.ahead w q) blk a (Lib.compact zs++List.replicate (zs.length-(Lib.compact zs).length) []).toArray:=Any.slices_Compact_string Tryz.ZN blk a cap zs w b c d
open Go.RowKit Go.Sort in
def Tryz.slices_Sort_string_none(p:Option Addr)(cap:Nat)(w:W_):Calls prog 189 #[.slice p 0 cap] w λe w'=>e=.returned (.tuple #[])/\w'=w:=Any.slices_Sort_string_none Tryz.KV p cap w
end Go.Proofs
namespace Go.Proofs
open Go.Shelf Tryz
def Tryz.Um:Go.Shelf.Ren:=⟨λ|6=>173|15=>62|14=>230|28=>111|29=>112|20=>273|21=>274|22=>275|23=>276|24=>277|25=>278|26=>279|27=>280|46=>305|47=>162|48=>163|49=>306|50=>307|57=>329|n=>n,λ|22=>181|24=>183|25=>253|3=>3|39=>111|0=>0|53=>175|55=>177|4=>4|46=>169|45=>168|50=>98|5=>5|9=>9|66=>239|70=>243|76=>288|77=>289|n=>n,λ|n=>n⟩
def Tryz.aa8:Go.Proofs.SlLaysF0.n6 prog Tryz.Um:={Tryz.pQ with mixed:=by kernel_rfl,f6:=⟨f173.name,by decide,fH func173 (by kernel_rfl)⟩,f14:=⟨f230.name,by decide,fH func230 (by kernel_rfl)⟩,f15:=fH func62 (by kernel_rfl),f20:=⟨f273.name,by decide,fH func273 (by kernel_rfl)⟩,f21:=⟨f274.name,by decide,fH func274 (by kernel_rfl)⟩,f22:=⟨f275.name,by decide,fH func275 (by kernel_rfl)⟩,f23:=⟨f276.name,by decide,fH func276 (by kernel_rfl)⟩,f24:=⟨f277.name,by decide,fH func277 (by kernel_rfl)⟩,f25:=⟨f278.name,by decide,fH func278 (by kernel_rfl)⟩,f26:=⟨f279.name,by decide,fH func279 (by kernel_rfl)⟩,f27:=⟨f280.name,by decide,fH func280 (by kernel_rfl)⟩,f28:=fH func111 (by kernel_rfl),f29:=fH func112 (by kernel_rfl),f46:=⟨f305.name,by decide,fH func305 (by kernel_rfl)⟩,f47:=fH func162 (by kernel_rfl),f48:=fH func163 (by kernel_rfl),f49:=⟨f306.name,by decide,fH func306 (by kernel_rfl)⟩,f50:=⟨f307.name,by decide,fH func307 (by kernel_rfl)⟩,f57:=⟨f329.name,by decide,fH func329 (by kernel_rfl)⟩,t22:=underlying181,a22:=isAgg181,z22:=sizeOf181,v22:=zeroValue181,t25:=underlying253,a25:=isAgg253,z25:=sizeOf253,v25:=zeroValue253}
def Tryz.Qi:Go.Shelf.Ren:=⟨λ|6=>146|15=>62|14=>216|28=>111|29=>112|20=>251|21=>252|22=>253|23=>254|24=>255|25=>256|26=>257|27=>258|46=>296|47=>162|48=>163|49=>297|50=>298|57=>319|n=>n,λ|22=>81|24=>148|25=>231|3=>3|39=>111|0=>0|53=>175|55=>177|4=>4|46=>169|45=>168|50=>98|5=>5|9=>9|66=>239|70=>243|76=>288|77=>289|n=>n,λ|n=>n⟩
def Tryz.WW:Go.Proofs.SlLaysF0.n6 prog Tryz.Qi:={Tryz.pQ with mixed:=by kernel_rfl,f6:=⟨f146.name,by decide,fH func146 (by kernel_rfl)⟩,f14:=⟨f216.name,by decide,fH func216 (by kernel_rfl)⟩,f15:=fH func62 (by kernel_rfl),f20:=⟨f251.name,by decide,fH func251 (by kernel_rfl)⟩,f21:=⟨f252.name,by decide,fH func252 (by kernel_rfl)⟩,f22:=⟨f253.name,by decide,fH func253 (by kernel_rfl)⟩,f23:=⟨f254.name,by decide,fH func254 (by kernel_rfl)⟩,f24:=⟨f255.name,by decide,fH func255 (by kernel_rfl)⟩,f25:=⟨f256.name,by decide,fH func256 (by kernel_rfl)⟩,f26:=⟨f257.name,by decide,fH func257 (by kernel_rfl)⟩,f27:=⟨f258.name,by decide,fH func258 (by kernel_rfl)⟩,f28:=fH func111 (by kernel_rfl),f29:=fH func112 (by kernel_rfl),f46:=⟨f296.name,by decide,fH func296 (by kernel_rfl)⟩,f47:=fH func162 (by kernel_rfl),f48:=fH func163 (by kernel_rfl),f49:=⟨f297.name,by decide,fH func297 (by kernel_rfl)⟩,f50:=⟨f298.name,by decide,fH func298 (by kernel_rfl)⟩,f57:=⟨f319.name,by decide,fH func319 (by kernel_rfl)⟩,t22:=underlying81,a22:=isAgg81,z22:=sizeOf81,v22:=zeroValue81,t25:=underlying231,a25:=isAgg231,z25:=sizeOf231,v25:=zeroValue231}
end Go.Proofs
namespace Go.Proofs
open Go.Shelf Tryz
def Tryz.H6:Go.Shelf.Ren:=⟨λ|219=>304|217=>325|225=>326|224=>327|267=>328|266=>355|314=>356|n=>n,λ|9=>9|3=>3|4=>4|5=>5|46=>111|146=>401|51=>175|n=>n,λ|1=>1|n=>n⟩
def Tryz.Un:Go.Proofs.Lays.n219 prog Tryz.H6:={Tryz.Nj with mixed:=by kernel_rfl,f217:=fH func325 (by kernel_rfl),f219:=fH func304 (by kernel_rfl),f224:=fH func327 (by kernel_rfl),f225:=fH func326 (by kernel_rfl),f266:=fH func355 (by kernel_rfl),f267:=fH func328 (by kernel_rfl),f314:=fH func356 (by kernel_rfl),g1:=by kernel_rfl}
def Tryz.zN:Go.Shelf.Ren:=⟨λ|26=>133|33=>192|34=>193|38=>186|n=>n,λ|24=>41|9=>9|3=>3|4=>4|40=>111|0=>0|n=>n,λ|n=>n⟩
def Tryz.yt:Go.Proofs.Lays2.n26 prog Tryz.zN:={Tryz.xG,Tryz.xH with mixed:=by kernel_rfl,f26:=fH func133 (by kernel_rfl),f33:=fH func192 (by kernel_rfl),f34:=fH func193 (by kernel_rfl),f38:=fH func186 (by kernel_rfl)}
def Tryz.Bl:Go.Shelf.Ren:=⟨λ|221=>314|268=>348|138=>349|143=>350|195=>360|197=>361|218=>362|219=>304|260=>366|217=>325|225=>326|224=>327|267=>328|266=>355|314=>356|n=>n,λ|9=>9|3=>3|31=>41|4=>4|0=>0|105=>405|21=>21|5=>5|46=>111|119=>410|139=>413|138=>412|146=>401|51=>175|n=>n,λ|1=>1|3=>7|4=>8|n=>n⟩
def Tryz.KX:Go.Proofs.Lays.n221 prog Tryz.Bl:={Tryz.Nj with mixed:=by kernel_rfl,f138:=fH func349 (by kernel_rfl),f143:=fH func350 (by kernel_rfl),f195:=fH func360 (by kernel_rfl),f197:=fH func361 (by kernel_rfl),f217:=fH func325 (by kernel_rfl),f218:=fH func362 (by kernel_rfl),f219:=fH func304 (by kernel_rfl),f221:=fH func314 (by kernel_rfl),f224:=fH func327 (by kernel_rfl),f225:=fH func326 (by kernel_rfl),f260:=fH func366 (by kernel_rfl),f266:=fH func355 (by kernel_rfl),f267:=fH func328 (by kernel_rfl),f268:=fH func348 (by kernel_rfl),f314:=fH func356 (by kernel_rfl),g1:=by kernel_rfl,g3:=by kernel_rfl,g4:=by kernel_rfl}
def Tryz.wo:Go.Shelf.Ren:=⟨λ|7=>131|10=>190|n=>n,λ|23=>137|26=>9|3=>194|28=>192|0=>0|27=>191|33=>245|4=>4|n=>n,λ|n=>n⟩
def keys131:Go.Proofs.SlLaysZ.n7 prog Tryz.wo:={Tryz.oN with mixed:=by kernel_rfl,f7:=⟨f131.name,by decide,fH func131 (by kernel_rfl)⟩,f10:=⟨f190.name,by decide,fH func190 (by kernel_rfl)⟩,t23:=underlying137,a23:=isAgg137,z23:=sizeOf137,v23:=zeroValue137,t26:=underlying9,a26:=isAgg9,z26:=sizeOf9,v26:=zeroValue9,t27:=underlying191,a27:=isAgg191,z27:=sizeOf191,v27:=zeroValue191,t28:=underlying192,a28:=isAgg192,z28:=sizeOf192,v28:=zeroValue192,t33:=underlying245,a33:=isAgg245,z33:=sizeOf245,v33:=zeroValue245}
def Tryz.yu:Go.Shelf.Ren:=⟨λ|6=>130|8=>188|9=>189|11=>240|13=>62|12=>241|23=>111|24=>112|14=>283|15=>284|16=>285|17=>286|18=>287|19=>288|20=>192|21=>289|22=>290|25=>309|26=>162|27=>163|28=>310|29=>311|30=>186|31=>331|n=>n,λ|26=>9|28=>192|24=>41|0=>0|3=>3|37=>111|48=>175|50=>177|4=>4|40=>169|39=>168|45=>98|5=>5|9=>9|51=>239|55=>243|57=>288|58=>289|33=>245|n=>n,λ|n=>n⟩
def Tryz.xI:Go.Proofs.SlLaysZ.n6 prog Tryz.yu:={keys131,Tryz.xH with mixed:=by kernel_rfl,f6:=⟨f130.name,by decide,fH func130 (by kernel_rfl)⟩,f8:=⟨f188.name,by decide,fH func188 (by kernel_rfl)⟩,f11:=⟨f240.name,by decide,fH func240 (by kernel_rfl)⟩,i26:=by kernel_rfl}
def Tryz.Nn:Go.Shelf.Ren:=⟨λ|6=>189|8=>62|9=>241|19=>111|20=>112|21=>283|22=>284|23=>285|24=>286|25=>287|26=>288|27=>192|28=>289|29=>290|36=>309|31=>162|32=>163|37=>310|38=>311|39=>186|41=>331|n=>n,λ|27=>41|29=>9|3=>3|32=>111|26=>41|0=>0|44=>175|46=>177|4=>4|36=>169|35=>168|41=>98|5=>5|9=>9|53=>239|57=>243|63=>288|64=>289|n=>n,λ|n=>n⟩
def Tryz.Tf:Go.Proofs.SlLaysM.n6 prog Tryz.Nn:={Tryz.oN with mixed:=by kernel_rfl,f6:=⟨f189.name,by decide,fH func189 (by kernel_rfl)⟩,f8:=fH func62 (by kernel_rfl),f9:=⟨f241.name,by decide,fH func241 (by kernel_rfl)⟩,f19:=fH func111 (by kernel_rfl),f20:=fH func112 (by kernel_rfl),f21:=⟨f283.name,by decide,fH func283 (by kernel_rfl)⟩,f22:=⟨f284.name,by decide,fH func284 (by kernel_rfl)⟩,f23:=⟨f285.name,by decide,fH func285 (by kernel_rfl)⟩,f24:=⟨f286.name,by decide,fH func286 (by kernel_rfl)⟩,f25:=⟨f287.name,by decide,fH func287 (by kernel_rfl)⟩,f26:=⟨f288.name,by decide,fH func288 (by kernel_rfl)⟩,f27:=⟨f192.name,by decide,fH func192 (by kernel_rfl)⟩,f28:=⟨f289.name,by decide,fH func289 (by kernel_rfl)⟩,f29:=⟨f290.name,by decide,fH func290 (by kernel_rfl)⟩,f31:=fH func162 (by kernel_rfl),f32:=fH func163 (by kernel_rfl),f36:=⟨f309.name,by decide,fH func309 (by kernel_rfl)⟩,f37:=⟨f310.name,by decide,fH func310 (by kernel_rfl)⟩,f38:=⟨f311.name,by decide,fH func311 (by kernel_rfl)⟩,f39:=⟨f186.name,by decide,fH func186 (by kernel_rfl)⟩,f41:=⟨f331.name,by decide,fH func331 (by kernel_rfl)⟩,t26:=underlying41,a26:=isAgg41,z26:=sizeOf41,v26:=zeroValue41,t27:=underlying41,a27:=isAgg41,z27:=sizeOf41,v27:=zeroValue41,t29:=underlying9,a29:=isAgg9,z29:=sizeOf9,v29:=zeroValue9,t32:=underlying111,a32:=isAgg111,z32:=sizeOf111,v32:=zeroValue111,t35:=underlying168,a35:=isAgg168,z35:=sizeOf168,v35:=zeroValue168,t36:=underlying169,a36:=isAgg169,z36:=sizeOf169,v36:=zeroValue169,t41:=underlying98,a41:=isAgg98,z41:=sizeOf98,v41:=zeroValue98,t44:=underlying175,a44:=isAgg175,z44:=sizeOf175,v44:=zeroValue175,t46:=underlying177,a46:=isAgg177,z46:=sizeOf177,v46:=zeroValue177,t53:=underlying239,a53:=isAgg239,z53:=sizeOf239,v53:=zeroValue239,t57:=underlying243,a57:=isAgg243,z57:=sizeOf243,v57:=zeroValue243,t63:=underlying288,a63:=isAgg288,z63:=sizeOf288,v63:=zeroValue288,t64:=underlying289,a64:=isAgg289,z64:=sizeOf289,v64:=zeroValue289}
def Tryz.wu:Go.Shelf.Ren:=⟨λ|7=>132|10=>191|n=>n,λ|23=>194|26=>9|3=>4|28=>192|0=>0|27=>191|33=>245|4=>4|n=>n,λ|n=>n⟩
def keys132:Go.Proofs.SlLaysZ.n7 prog Tryz.wu:={keys131 with mixed:=by kernel_rfl,f7:=⟨f132.name,by decide,fH func132 (by kernel_rfl)⟩,f10:=⟨f191.name,by decide,fH func191 (by kernel_rfl)⟩,t23:=underlying194,a23:=isAgg194,z23:=sizeOf194,v23:=zeroValue194}
end Go.Proofs
namespace Go.Proofs.YtjmbkfjklemmpaaGreatDoor
open Go.RowKit Tryz
def Uo(s:St)(w:W_):z 304 #[s,.string ⟨#[58]⟩] w λe w'=>e=.returned (Lib.indexByte s 58)/\w=w':=(Any.stringslite_Index_one Tryz.Un ⟨s.toArray⟩ 58 w).mono λe w' ⟨a,b⟩=>⟨a,b.symm⟩
def Ji(s:St):(Lib.indexByte s 58= -1/\og s=(s,none))\/∃i:Nat,Lib.indexByte s 58=(i:Int)/\i+1<=s.length/\og s=(s.take i,some (s.drop (i+1))):=by
 induction s with
 |nil=>exact .inl ⟨rfl,rfl⟩
 |cons c s d=>
  by_cases h:c=58;(·subst h;exact .inr ⟨0,by simp[Lib.indexByte],S,by simp[og]⟩);·rcases d with⟨a,b⟩|⟨i,a,b,e⟩;(·exact .inl ⟨by simp[Lib.indexByte,h,a],by simp[og,h,b]⟩);·refine .inr ⟨i+1,?_,by simp;omega,by simp[og,h,e]⟩;have:¬Lib.indexByte s 58= -1:=U;simp[Lib.indexByte,h,a]
def ZO{s:St}:(og s).1.length<=s.length/\∀b,(og s).2=some b->b.length<=s.length:=by rcases Ji s with⟨_,h⟩|⟨i,_,a,h⟩;(·rw[h];exact⟨fU _,λb h=>by cases h⟩);·rw[h];exact⟨by simp;omega,λb e=>by cases e;simp⟩
def cutV(s:St):V_:= .tuple #[.string ⟨(og s).1.toArray⟩,((og s).2.getD []),(og s).2.isSome]
def Np(s:St)(w:W_)(g:s.length<=4611686018427387904):z 269 #[s,.string ⟨#[58]⟩] w λe w'=>e=.returned (cutV s)/\G w w':=by have a:=O (Uo s);rcases Ji s with⟨b,c⟩|⟨i,b,c,d⟩;(·rw[b]at a;unfold cutV;rw[c];go_in;go_wp2_with (go_at_call 304;with_reducible refine(a.o _).mono ?_;rintro e f ⟨rfl,rfl⟩);go_ret3;exact⟨rfl,fD _ _⟩);·rw[b]at a;unfold cutV;rw[d];have k:(ByteArray.mk s.toArray).size=s.length:=rfl;have c1:(0:Int)<=↑i:=U;have c2:(↑i:Int)<=↑s.length:=U;have c3:(0:Int)<=↑i+1:=U;have c4:(↑i+1:Int)<=↑s.length:=U;(have h:(ByteArray.mk s.toArray).extract 0 i=⟨(s.take i).toArray⟩:=by rw[Lib.extract_eq];simp);(have j:(ByteArray.mk s.toArray).extract (i+1) s.length=⟨(s.drop (i+1)).toArray⟩:=by rw[Lib.extract_eq];show ByteArray.mk (List.take (s.length-(i+1)) (s.drop (i+1))).toArray=_;rw[MU S]);go_in;go_wp2_with (go_at_call 304;with_reducible refine(a.o _).mono ?_;rintro e f ⟨rfl,rfl⟩);go_region;go_wp2;go_ret3;exact⟨rfl,(fD _ _).drew⟩
def ZP(s:St)(w:W_)(b:s.length<=4611686018427387904):z 224 #[s,.string ⟨#[58]⟩] w λe w'=>e=.returned (cutV s)/\G w w':=by(have a:=O λw=>Np s w b);unfold cutV at a ⊢;go_in;go_wp2_with (go_at_call 269;with_reducible refine(a.o _).mono ?_;rintro e d ⟨rfl,c⟩);go_ret3;exact⟨rfl,c⟩
def lH(s:St)(w:W_)(q:s.length<=4611686018427387904):z 167 #[s] w λe w'=>e=.returned (fE s)/\G w w':=by
 have C:(ByteArray.mk s.toArray).size=s.length:=rfl;by_cases hl:24<s.length;·(have g1:decide ((24:Int)<((s.length:Nat):Int))=true:=by simp;omega);have g:fE s=false:=(by simp[fE,hl]);generalize fE s=v at *;go_in;go_wp2;go_ret;exact⟨ku g.symm,fD _ _⟩
 ·have g1:decide ((24:Int)<((s.length:Nat):Int))=false:=by simp;omega
  (have i:=O λw=>ZP s w q);obtain⟨m,n⟩:=ZO (s:=s);have g:fE s=(match og s with|(a,none)=>jJ a|(a,some b)=>jJ a&&jJ b):=(by unfold fE;rw[u_ hl];rcases og s with⟨_,_|_⟩<;>rfl);unfold cutV at i;generalize fE s=v at *;generalize og s=cb at *;obtain⟨a,r⟩:=cb;have k:∀w x,jJ a=x->z 225 #[a] w λe w'=>e=.returned (.bool x)/\G w w':=λw x h=>by subst h;exact EN a w (by dsimp only at m;omega)
  cases r with
  |none=>
   simp only[Option.isSome,Option.getD]at i
   cases d:jJ a<;>
   ·have f:=g;simp only[d]at f;have l:=O f;have o:=(λw=>k w _ d);clear g f d k m n;go_in;go_wp2_with (first|(go_at_call 224;with_reducible refine(i.o _).mono ?_;rintro e t ⟨rfl,c⟩)|(go_at_call 225;with_reducible refine(o _).mono ?_;rintro e u ⟨rfl,j⟩));go_ret;exact⟨ku l.o.symm,c.trans (j.mono c.size)⟩
  |some b=>
   (have p:∀w x,jJ b=x->z 225 #[b] w λe w'=>e=.returned (.bool x)/\G w w':=λw x h=>by subst h;exact EN b w (by have:=n b rfl;omega));simp only[Option.isSome,Option.getD]at i
   cases d:jJ a<;>cases hb:jJ b<;>
   ·have f:=g;simp only[d,hb,ik_,il_,ia_,gj_]at f;have l:=O f;have o:=(λw=>k w _ d);have y:=(λw=>p w _ hb);clear g f d hb k p m n;go_in;go_wp2_with (first|(go_at_call 224;with_reducible refine(i.o _).mono ?_;rintro e t ⟨rfl,c⟩)|(go_at_call 225;with_reducible refine(o _).mono ?_;rintro e u ⟨rfl,j⟩)|(go_at_call 225;with_reducible refine(y _).mono ?_;rintro e B ⟨rfl,A⟩));go_ret;first|exact⟨ku l.o.symm,(c.trans (j.mono c.size)).trans (A.mono (gT c.size j.size))⟩|exact⟨ku l.o.symm,c.trans (j.mono c.size)⟩
def rY(s:St)(w:W_)(f:s.length<=4611686018427387904):Calls prog 168 #[.string ⟨s.toArray⟩] w λe w'=>e=.returned (.int .i64 (if fq s then 0 else 20))/\Below w.heap.size w w':=by
 (have g:∀w b,fE s=b->z 167 #[s] w λe w'=>e=.returned (.bool b)/\G w w':=λw b h=>by subst h;exact lH s w f);(have i:∀w b,iy s=b->z 226 #[s] w λe w'=>e=.returned (.bool b)/\G w w':=λw b h=>by subst h;exact vZ s w f);have j:fq s=(fE s||iy s):=rfl;generalize fq s=q at *
 cases a:fE s<;>cases c:iy s<;>
 ·have k:=j;simp only[a,c,gk_,Bool.or_true,Bool.true_or,is_]at k;subst k;have l:=(λw=>g w _ a);have m:=(λw=>i w _ c);clear j a c g i;go_in;go_wp2_with (first|(go_at_call 167;with_reducible refine(l _).mono ?_;rintro e o ⟨rfl,d⟩)|(go_at_call 226;with_reducible refine(m _).mono ?_;rintro e p ⟨rfl,n⟩));go_ret;first|exact⟨rfl,d.trans (n.mono d.size)⟩|exact⟨rfl,d⟩
end Go.Proofs.YtjmbkfjklemmpaaGreatDoor
