import Derived.Lib.ItoaLen
import Derived.Shelf.SlSortCmp.NoneTotal
import Derived.Shelf.Slices.Cells
import Derived.Shelf.Slices.Clone
import Derived.Shelf.Slices.Empties
import Derived.Shelf.Slices.In.SortNone
import Derived.Shelf.Slices.Turned
import Derived.Shelf.SlicesE.Clone
import Derived.Shelf.Small.Strs
import Derived.Shelf.Small.Wraps
import Derived.Shelf.Sort.Plain
import Derived.Shelf.Spec.SlicesInsertGrow
import Derived.Shelf.Strconv.Itoa3
import Derived.Shelf.Strings.BuilderK
import Derived.Shelf.Strings.Explode
import Derived.Shelf.Strings.OnBuilder
import Derived.Shelf.Strings.Shaped
import Derived.Shelf.Strings.SplitShaped
import Derived.Shelf.Unicode.DecodeAny
import Derived.Shelf.Unicode.DecodeSlow
import Derived.StillTail
import Derived.Test.YtgoapenfbanhaaaGreatDoorJ00
set_option linter.all false
set_option maxRecDepth 100000
set_option maxHeartbeats 32000000
open List renaming length->l_
open Go.Proofs.Tryz Go.Shelf Go Go.RowKit Go.Sort
open Go renaming World->W_,Value->V_,maxLen->m_,TypeId->T_
namespace Go.Proofs
variable{α:Type}{x:Option α}
abbrev bv_:=@Go.Maps.has_eq
abbrev bw_:=@Go.Maps.has_put_same
abbrev ha_:=@Go.Proofs.AnyF.slices_SortFunc_none
abbrev hi_:=@Go.Sort.heap_grow_old
def iL{a b:α}(h:x=some a)(e:a=b):x=some b:=h.trans (iM some e)
def Tryz.DW:Go.Shelf.Ren:=⟨λ|169=>313|n=>n,λ|70=>368|9=>9|0=>0|72=>370|37=>343|127=>392|3=>3|5=>5|n=>n,λ|n=>n⟩
theorem ab1_{P:Program}{k:FuncId}{B:Func}(a:(((P.funcs[k]?).map (·.name)).getD "" == "runtime.NumGoroutine")=false)(b:P.funcs[k]?=some {B with name:=((P.funcs[k]?).map (·.name)).getD ""}):Bears P k B:=⟨_,a,b⟩
def Tryz.Fq:Go.Proofs.Lays.n169 prog Tryz.DW:=by constructor<;>first|kernel_rfl|intro;kernel_rfl
def Tryz.sI:Builder.Extra prog Tryz.DW:=by constructor<;>first|kernel_rfl|intro;kernel_rfl|decide|constructor<;>first|kernel_rfl|intro;kernel_rfl
open Go.RowKit in
def Tryz.Builder_String_any(B b:Nat)(l:List UInt8)(w:W_)(h:Lib.IsBuilder 370 5 B b (Lib.byteCells l) w)(a:B<=w):Calls prog 313 #[.pointer b] w λe w'=>e=.returned (.string ⟨l.toArray⟩)/\Below B w w':=Any.Builder_String_any Tryz.Fq Tryz.sI B b l w h a
def Tryz.O1:Go.Shelf.Ren:=⟨λ|122=>62|215=>102|n=>n,λ|3=>3|4=>4|n=>n,λ|n=>n⟩
def Tryz.MH:Go.Proofs.Lays.n122 prog Tryz.O1:=by constructor<;>first|kernel_rfl|intro;kernel_rfl|apply ab1_<;>kernel_rfl|constructor<;>first|kernel_rfl|intro;kernel_rfl
open Go.RowKit in
def Tryz.cmp_Compare_int(x y:Int)(w:W_):Calls prog 62 #[.int .i64 x,.int .i64 y] w λe w'=>e=.returned (.int .i64 (Lib.compareInt x y))/\w'=w:=Any.cmp_Compare_int Tryz.MH x y w
def Tryz.MI:Go.Shelf.Ren:=⟨λ|171=>314|243=>344|246=>352|283=>356|284=>357|285=>358|286=>359|129=>163|317=>361|318=>362|319=>363|320=>364|337=>365|338=>366|n=>n,λ|3=>3|9=>9|2=>2|4=>4|171=>402|0=>0|53=>248|37=>343|5=>5|173=>404|212=>407|51=>246|20=>20|213=>408|46=>157|232=>413|233=>414|n=>n,λ|17=>4|18=>7|19=>8|n=>n⟩
def Tryz.xg:Go.Proofs.LaysM.n171 prog Tryz.MI:=by constructor<;>first|kernel_rfl|intro;kernel_rfl|apply ab1_<;>kernel_rfl|constructor<;>first|kernel_rfl|intro;kernel_rfl
open Go.RowKit Go.Sort Go.Lib in
def Tryz.strconv_Itoa(n:Int)(a: -9223372036854775808<=n)(b:n<=9223372036854775807)(w:W_)(c:Lib.TabIs prog w "internal/strconv.uint64pow10" .u64 Lib.pow10Tab):Calls prog 314 #[.int .i64 n] w λe w'=>e=.returned (.string ⟨(Lib.itoa n).toArray⟩)/\∃k os,w'=grow (w.drewN k) os:=Any.strconv_Itoa Tryz.xg n a b w c
def Tryz.O4:Go.Shelf.Ren:=⟨λ|189=>134|125=>98|257=>200|128=>162|129=>163|294=>251|295=>252|296=>253|297=>254|298=>255|299=>256|216=>93|300=>257|301=>258|328=>291|329=>221|330=>222|331=>292|332=>293|215=>102|343=>316|n=>n,λ|28=>31|3=>3|46=>157|0=>0|51=>246|53=>248|4=>4|183=>240|182=>239|131=>103|5=>5|9=>9|218=>286|222=>186|228=>335|229=>336|n=>n,λ|n=>n⟩
def Tryz.Vx:Go.Proofs.Lays.n189 prog Tryz.O4:=by constructor<;>first|kernel_rfl|intro;kernel_rfl|apply ab1_<;>kernel_rfl|constructor<;>first|kernel_rfl|intro;kernel_rfl
open Go.Sort Go.RowKit in
def Tryz.slices_Sort_int(blk a cap:Nat)(zs:I_)(w:W_)(b:Holds (Value.int .i64) w blk a zs.toArray)(d:blk<w)(c:l_ zs<4611686018427387904):Calls prog 134 #[.slice (a_ blk a) (l_ zs) cap] w λe w'=>e=.returned (.tuple #[])/\∃n os,w'=grow (putRow (Value.int .i64) (Sort.ahead w n) blk a (zs.mergeSort λx y=>decide (x<=y)).toArray) os:=Any.slices_Sort_int Tryz.Vx blk a cap zs w b d c
def Tryz.Jv:Go.Shelf.Ren:=⟨λ|15=>54|n=>n,λ|22=>31|3=>3|4=>4|n=>n,λ|n=>n⟩
def Tryz.Cx:Go.Proofs.Lays2.n15 prog Tryz.Jv:=by constructor<;>first|kernel_rfl|intro;kernel_rfl|apply ab1_<;>kernel_rfl|constructor<;>first|kernel_rfl|intro;kernel_rfl
open Go.RowKit Go.Lib in
def Tryz.uX(a:Addr)(c:Nat)(w:W_):Calls prog 54 #[.slice (some a) 0 c] w λe w'=>∃v',e=.returned v'/\w'.ownsRow w 3 1 v' 0 []/\v'≠.slice none 0 0/\Below w w w':=Any.slices_Clone_int_zero Tryz.Cx a c w
def Tryz.Jw:Go.Shelf.Ren:=⟨λ|25=>52|31=>93|32=>94|37=>102|n=>n,λ|22=>31|3=>3|4=>4|40=>157|0=>0|n=>n,λ|n=>n⟩
def Tryz.yE:Go.Proofs.Lays2.n25 prog Tryz.Jw:=by constructor<;>first|kernel_rfl|intro;kernel_rfl|apply ab1_<;>kernel_rfl|constructor<;>first|kernel_rfl|intro;kernel_rfl
open Go.RowKit Go.Lib in
def Tryz.slices_BinarySearch_int(b a n c:Nat)(zs:I_)(x:Int)(w:W_)(d:n<=l_ zs)(g:n<4611686018427387904)(hc:∀j,j<l_ zs->w.cell? (a_ b (a+j))=some (.int .i64 (zs.getD j 0)))(f:(zs.take n).Pairwise (·<= ·)):Calls prog 52 #[.slice (a_ b a) n c,.int .i64 x] w λe w'=>e=.returned (.tuple #[.int .i64 ((zs.take n).countP (·<x):Nat),.bool ((zs.take n).contains x)])/\∃q,w'=w.drewN q:=Any.slices_BinarySearch_int Tryz.yE b a n c zs x w d g hc f
open Go.RowKit Go.Sort in
def Tryz.slices_Sort_int_none(p:J_)(cap:Nat)(w:W_):Calls prog 134 #[.slice p 0 cap] w λe w'=>e=.returned (.tuple #[])/\w'=w:=Any.slices_Sort_int_none Tryz.Vx p cap w
open Go.RowKit Go.Lib in
def Tryz.slices_BinarySearch_int_empty(a:J_)(c:Nat)(x:Int)(w:W_):Calls prog 52 #[.slice a 0 c,.int .i64 x] w λe w'=>e=.returned (.tuple #[.int .i64 0,.bool false])/\w'=w:=Any.slices_BinarySearch_int_empty Tryz.yE a c x w
def Tryz.zM:Go.Shelf.Ren:=⟨λ|41=>54|n=>n,λ|22=>31|23=>3|4=>4|n=>n,λ|n=>n⟩
def Tryz.xk:Go.Proofs.SlLaysE0.n41 prog Tryz.zM:=by constructor<;>first|kernel_rfl|intro;kernel_rfl|apply ab1_<;>kernel_rfl|constructor<;>first|kernel_rfl|intro;kernel_rfl
open Go.RowKit Go.Lib in
def Tryz.Jy(i0:TypeInfo)(z:V_)(size bytes:Nat)(hi:prog.info? 3=some i0)(h:i0.zero=some z)(i:i0.size=size)(k:i0.bytes=bytes)(l:z.cells.size=size)(m:0<size)(o:∀w,(Go.sizeOf 3).run prog w=.ok size w)(b d n c:Nat)(a:O_)(w:W_)(hl:l_ a=n*size)(f:n<=m_)(p:n*bytes<=140737488355328)(hc:∀j u,a[j]?=some u->w.cell? (a_ b (d+j))=some u)(g:∀u∈a,u.oneCell'=true):Calls prog 54 #[.slice (a_ b d) n c] w λe w'=>∃v',e=.returned v'/\w'.ownsRow w 3 size v' n a/\v'≠.slice none 0 0/\Below w w w':=AnyE.slices_Clone Tryz.xk i0 z size bytes hi h i k l m o b d n c a w hl f p hc g
open Go.RowKit Go.Lib in
def Tryz.AJ(n c:Nat)(w:W_):Calls prog 54 #[.slice none n c] w λe w'=>e=.returned ()/\w'=w:=AnyE.slices_Clone_nil Tryz.xk n c w
def Tryz.CB:Go.Shelf.Ren:=⟨λ|6=>56|15=>98|14=>97|28=>162|29=>163|20=>154|21=>155|22=>156|23=>157|24=>158|25=>159|26=>160|27=>161|46=>220|47=>221|48=>222|49=>223|50=>224|57=>273|n=>n,λ|22=>35|24=>31|25=>108|3=>3|39=>157|0=>0|53=>246|55=>248|4=>4|46=>240|45=>239|50=>103|5=>5|9=>9|66=>286|70=>186|76=>335|77=>336|n=>n,λ|n=>n⟩
def Tryz.AL:Go.Proofs.SlLaysF.n6 prog Tryz.CB:=by constructor<;>first|kernel_rfl|intro;kernel_rfl|apply ab1_<;>kernel_rfl|constructor<;>first|kernel_rfl|intro;kernel_rfl
open Go.RowKit Go.Lib Go.Sort in
def Tryz.sJ{α:Type}[Inhabited α](enc:α->V_)(c:OneCell enc)(b:α->α->Int)(f:SWO (ltOf b))(g:Nat)(cb:A_)(blk a cap:Nat)(d:Array α)(w:W_)(h:∀args w,(callFunc g args).run prog w=.ok (.enter g args) w)(k:CmpLays1 prog g cb enc b blk a d.size w)(i:Holds enc w blk a d)(l:blk<w)(j:d.size<4611686018427387904):Calls prog 56 #[.slice (a_ blk a) d.size cap,.func (.func g) #[] cb] w λe w'=>e=.returned (.tuple #[])/\∃d' n os,PermIn 0 d.size d d'/\SortedIn (ltOf b) 0 d.size d'/\w'=sortWorld enc w blk a n d' os:=Any.slices_SortFunc Tryz.AL enc c b f g cb blk a cap d w h k i l j
def Tryz.AO:Go.Shelf.Ren:=⟨λ|6=>56|15=>98|14=>97|28=>162|29=>163|20=>154|21=>155|22=>156|23=>157|24=>158|25=>159|26=>160|27=>161|46=>220|47=>221|48=>222|49=>223|50=>224|57=>273|n=>n,λ|22=>35|24=>31|25=>108|3=>3|39=>157|0=>0|53=>246|55=>248|4=>4|46=>240|45=>239|50=>103|5=>5|9=>9|66=>286|70=>186|76=>335|77=>336|n=>n,λ|n=>n⟩
def Tryz.Jz:Go.Proofs.SlLaysF0.n6 prog Tryz.AO:=by constructor<;>first|kernel_rfl|intro;kernel_rfl|apply ab1_<;>kernel_rfl|constructor<;>first|kernel_rfl|intro;kernel_rfl
open Go.RowKit Go.Lib Go.Sort in
def Tryz.oJ{α:Type}[Inhabited α](p:J_)(cap:Nat)(a:V_)(w:W_):Calls prog 56 #[.slice p 0 cap,a] w λe w'=>e=.returned (.tuple #[])/\w'=w:=ha_ Tryz.Jz p cap a w
open Go.RowKit Go.Lib Go.Sort in
def Tryz.EL:Go.Shelf.Ren:=⟨λ|21=>53|27=>95|28=>96|35=>153|39=>112|n=>n,λ|22=>31|3=>3|4=>4|0=>0|n=>n,λ|n=>n⟩
def Tryz.qb:Go.Proofs.Lays2.n21 prog Tryz.EL:=by constructor<;>first|kernel_rfl|intro;kernel_rfl|apply ab1_<;>kernel_rfl|constructor<;>first|kernel_rfl|intro;kernel_rfl
end Go.Proofs
namespace Go.Proofs.YtgoapenfbanhaaaGreatDoor
section
variable{a:Act}{e:Act->Prop}{L:Array Bool->Act->Prop}{l:List Oper}{b g k n:Nat}{p:Oper}{v:V_}{w:W_}
variable{P:Program}{ops:Array Oper}{md:Region.Mode}{C:W_->Prop}
def O5(P:Program)(md:Region.Mode)(ops:Array Oper)(C:W_->Prop)(n:Nat)(L:Array Bool->Act->Prop):Nat->Array Bool->Act->Prop
 |0,listed,a=>L listed a
 |f+1,listed,a=>Region.ready md ops listed≠[]/\∀i∈Region.ready md ops listed,i<n/\qOp P ops C i (O5 P md ops C n L f (listed.setIfInBounds i true)) a
def Ku{Q:Exit->Act->W_->Prop}(c:∀b a w,C w->L b a->wpAny P md ops Q g b a w):∀(f:Nat)(b:Array Bool)(a:Act)(w:W_),C w->O5 P md ops C n L f b a->wpAny P md ops Q (f+g) b a w
 |0,b,a,w,hw,h=>by rw[Jc];exact c _ _ _ hw h
 |f+1,b,a,w,hw,h=>by
  rw[show f+1+g=(f+g)+1 by omega];exact⟨λd=>absurd d h.1,λi hi=>wpOp_of_qOp hw (λe w' k j=>Ku c f _ e w' k j) (h.2 i hi).2⟩
def O6{i:Nat}(hi:ops[i]?=some p)(F:∀(j:Nat)(o:Oper) q b,ops[j]?=some o->o.op≠.select q b)(x:Region.sinkB md ops n=true)(D:Region.chainB md ops n=true)(y:n<ops.size)(B:i<n)(S:∀c a,L c a->∀j∈Region.ready md ops c,n<=j):∀(f:Nat)(c:Array Bool)(a:Act),HeadInv md ops n c-> (∀j g,ops[j]?=some g->j≠i->c.getD j true=false->(∀e∈g.after,Region.binds md e=true->e.on≠i)->p.apart ops g=true)-> i∈Region.ready md ops c->YieldsIn P ops C p v a->O5 P md ops C n L f (c.setIfInBounds i true) (a.put p.dst v)->O5 P md ops C n L (f+1) c a:=by
 intro f
 induction f with
 |zero=>
  intro c a z _ m r H;have t:=(mem_ready.1 m).1;refine⟨List.ne_nil_of_mem m,λj l=>?_⟩;(have u:j<n:=Nat.lt_of_not_le λh=>tail_waits x D y z _ i rfl B t j h l);refine⟨u,?_⟩;by_cases d:j=i;(.subst d;exact r.qOp hi H);.have:=S _ _ H j (ready_mono l d);omega
 |succ f T=>
  intro c a z K m r H;have t:=(mem_ready.1 m).1;refine⟨List.ne_nil_of_mem m,λj l=>?_⟩;(have u:j<n:=Nat.lt_of_not_le λh=>tail_waits x D y z _ i rfl B t j h l);refine⟨u,?_⟩;by_cases d:j=i;(.subst d;exact r.qOp hi H);.have s:=(H.2 j (ready_mono l d)).2;obtain⟨I,g,w,Q⟩:=mem_ready.1 l;(have R:∀e∈g.after,Region.binds md e=true->e.on≠i:=λe W hb M=>by have s:=Q e W hb;rw[M,getD_both t]at s;cases s);have X:=qOp_put w (K j g w d I R) (λq b=>F i p q b hi) (λq b=>F j g q b w) r s;refine qOp_mono (λZ A=>T (c.setIfInBounds j true) Z (z.set l u) (λk U G N J O=>K k U G N ?_ O) (ready_mono m (cv_ d)) A.1 ?_) X;(.by_cases E:j=k;(.subst E;exact I);.rwa[getD_set_ne true E]at J);.rw[Array.setIfInBounds_comm _ _ d];exact A.2
def Kv(q:Region.noSelect ops=true)(f:Region.sinkB md ops n=true)(z:Region.chainB md ops n=true)(i:n<ops.size):∀(l:List Oper)(k:Nat)(b:Array Bool)(a:Act),(∀j,j<l_ l->l[j]?=ops[k+j]?)->k+l_ l=n->HeadInv md ops n b-> Region.lexHead md ops g (l_ l) k b=true->wpQuiet P ops C e l a->O5 P md ops C n (λA r=>Region.seqB md ops g n A=true/\e r) (l_ l) b a
 |[],k,b,a,_,c,_,H,h=>by
  obtain rfl:k=n:=Q c;exact⟨by simpa[Region.lexHead]using H,h⟩
 |o::l,k,b,a,hl,c,inv,H,h=>by
  (have d:ops[k]?=some o:=by simpa using(hl 0 S).symm);simp only[p8,Region.lexHead,OB]at H;obtain⟨⟨s,D⟩,x⟩:=H;(have m:k<n:=by simp only[p8]at c;omega);have p:k∈Region.ready md ops b:=Q s;(have y:qOp P ops C k (wpQuiet P ops C e l) a:=by unfold qOp;simp only[d];exact h);obtain⟨v,t,u⟩:=yieldsIn_of_qOp d y
  exact O6 d (Region.noSelect_spec q) f z i m (λ_ _ w=>seqB_ready w.1) (l_ l) b a inv (Region.free_spec d D) p t
   (Kv q f z i l (k+1) _ _ (λj B=>by have:=hl (j+1) (by simp;omega);simpa[gq_,iw_ 1 j]using this) (by simp only[p8]at c;omega) (inv.set p m) x u)
def xq(C:W_->Prop){Q:Exit->Act->W_->Prop}(n:Nat)(m:P.follows .mixedOrders=true)(z:Region.lexTailB .any l.toArray n=true)(o:C w.drew)(h:wpQuiet P l.toArray C (λc=>∀w',C w'->wpList P l.toArray Q (l.drop n) c w') (l.take n) a):(Code.region k l.toArray true).wp P Q a w:=by
 simp only[Region.lexTailB,OB,OC]at z;obtain⟨⟨⟨⟨u,d⟩,p⟩,D⟩,v⟩:=z;have B:n<l_ l:=Q_ d;(have b:l_ (l.take n)=n:=by simp;omega);have i:l_ (l.drop n)=l.toArray.size-n:=S;have x:HeadInv .any l.toArray n (Array.replicate l.toArray.size false):=⟨S,λj A _ hl=>(by rw[getD_replicate_false]at hl;cases hl),λt _ q=>getD_in (Q_ q) (getD_replicate_false _ _)⟩
 have H:=Kv (C:=C) (md:= .any) (g:=l.toArray.size-n) u p D d (l.take n) 0 _ a (λj e=>by
  have r:j<n:=by rwa[b]at e
  simp[r]) (Q_ b) x (by rwa[b]) h
 refine wp_region_any m ?_
 have:=Ku (C:=C) (Q:=Q) (g:=l.toArray.size-n) (λy c w' s f=>by
  have:=wpAny_of_seq (md:= .any) (Q':=Q) (l.drop n) n y c w' (λj=>by simp[hq_]) (by rw[i];exact f.1) (f.2 w' s)
  rwa[i]at this) _ _ _ _ o H
 rwa[b,show n+(l.toArray.size-n)=l.toArray.size by omega]at this
def kK{Q:Exit->Act->W_->Prop}(n:Nat)(c:P.follows .mixedOrders=true)(H:Region.lexTailB .any l.toArray n=true)(h:wpQuiet P l.toArray (λw'=>∃s:Later w,w'=s.at) (λd=>∀w',(∃s:Later w,w'=s.at)->wpList P l.toArray Q (l.drop n) d w') (l.take n) a):(Code.region b l.toArray true).wp P Q a w:=xq (λw'=>∃s:Later w,w'=s.at) n c H ⟨⟨_,(fu _ _).drew⟩,rfl⟩ h
end
section
variable{base cap g k n:Nat}{e:T_}{w:W_}
variable{α:Type}[Inhabited α]
def AP(enc:α->O_)(k:Nat)(a:∀x,l_ (enc x)=k)(l:List α):(flatK enc k l.toArray).toList=l.flatMap enc:=by apply cf_;intro t;by_cases h:t<l_ l*k;(·(have K:0<k:=by (rcases Nat.eq_zero_or_pos k with b|b;.subst b;simp at h);.exact b);have H:t / k<l_ l:=(Nat.div_lt_iff_lt_mul K).2 h;have c:t % k<k:=Nat.mod_lt _ K;have e:=nY enc k a l (t / k) (t % k) l[t / k] (by simp[H]) c;rw[OI,Nat.div_add_mod]at e;rw[e];have d:t<(flatK enc k l.toArray).size:=Q h;have g:=get_flatK enc k l.toArray t (Q h);rw[R5 _ t d]at g;rw[dd_,Za d,g,R5 l.toArray (t / k) (Q H),R5 _ (t % k) (by rwa[a])];simp[a,c]);.rw[Wz (by simp;omega),Wz (by rw[wW enc k a];omega)]
def xu{enc:α->O_}(f:∀x,l_ (enc x)=k){l:List α}(h:w.ownsRow base e k (.slice (a_ g 0) n cap) (l_ l) (l.flatMap enc)):HoldsK enc k w g 0 l.toArray:=by intro j a;obtain⟨_,b⟩:=h;rcases b with⟨b,_⟩|⟨i,s,m,H,hb,c,p,q,r,d⟩;(.cases b);·(obtain⟨rfl⟩:g=i:=by injection H with h;injection h with h;injection h);rw[<-AP enc k f]at d;have o:j<l_ l*k:=Q a;constructor;(.rw[Jc,dc_ w g j m e (0,0) c,id,R5 _ j a];have:=iM (λL:O_=>L[j]?) d;simp only[YW,P_ o,dd_]at this;rw[this,Za a]);.simp[World.frozen?,c]
def ownsRow_sorted{enc:α->O_}(c:∀x,l_ (enc x)=k){l:List α}{d':Array α}(z:d'.size=l_ l)(h:w.ownsRow base e k (.slice (a_ g 0) n cap) (l_ l) (l.flatMap enc))(m:Nat)(os:Array Obj):(sortWorldK enc k w g 0 m d' os).ownsRow base e k (.slice (a_ g 0) n cap) (l_ d'.toList) (d'.toList.flatMap enc)/\w.grownBy (sortWorldK enc k w g 0 m d' os) (some g):=by obtain⟨C,b⟩:=h;rcases b with⟨b,_⟩|⟨j,A,f,H,hb,d,o,p,q,E⟩;(.cases b);·(obtain⟨rfl⟩:g=j:=by injection H with h;injection h with h;injection h);(obtain⟨rfl⟩:cap=A:=by injection H);(obtain⟨rfl⟩:n=l_ l:=by injection H);have u:g<w:=(yZ.1 d).1;(have r:(flatK enc k d').toList=d'.toList.flatMap enc:=by rw[<-AP enc k c]);(have B:(sortWorldK enc k w g 0 m d' os).heap[g]?=some (.cells (putCells id 0 (flatK enc k d') f) e (0,0)):=by unfold sortWorldK;rw[hi_ _ _ (by simp[putRowK];exact u)];show((w.heap.modify g (onCells (putCells id 0 (flatK enc k d'))))[g]?)=_;simp[gr_,d,onCells]);refine⟨⟨by rw[wW enc k c],.inr ⟨g,cap,_,by simp[z],hb,B,by simp[z];exact o,p,by simp[putCells,q],?_⟩⟩,rfl,rfl,rfl,?_,?_⟩;(.rw[<-r];apply cf_;intro t;rw[YW];have v:(flatK enc k d').size=d'.size*k:=size_flatK enc k d';have F:d'.size*k<=cap*k:=gn_ k U;split;(.rename_i a;simp only[gy_]at a;have s:t<f.size:=U;simp[putCells,s,v,a,R5]);.rename_i a;simp only[gy_]at a;rw[Wz (by simp;omega)]);(.simp[sortWorldK,putRowK]);.intro i hi y;unfold sortWorldK;rw[hi_ _ _ (by simp[putRowK];exact hi)];show((w.heap.modify g (onCells (putCells id 0 (flatK enc k d'))))[i]?)=_;rw[gr_,C_ (λe=>y (by rw[e]))]
end
variable{H α:Type}{b c:Bool}{d:Cn}{a:I_}{h x y:Int}{L:List Ax}{ps:List Cn}{A:List Nat}{l:List α}{B base i j k most n n' t u v:Nat}{xs:O_}{o:Oper}{row:Option Nat}{p:Prop}{r s:St}{e:T_}
def zN(c:Cn):Prop:=∀d∈c.pre,d.K=6->d.J≠[]
def Kw:∀{ps:List Cn}{p:Cn},p∈ps->d∈p.pre->d∈Cn.kR ps
 |q::ps,p,a,hd=>by
  simp only[Cn.kR,iq];rcases jL.1 a with rfl|a;(.exact .inl hd);.exact .inr (Kw a hd)
def zN.part{c p:Cn}(h:zN c)(a:p∈c.J):zN p:=by intro d H;obtain⟨k,n,l,g,ps⟩:=c;refine h d ?_;simp only[Cn.pre,jL];exact .inr (Kw a H)
def zN.some{k:Int}{n:St}{l h:Int}{ps:List Cn}(H:zN (.mk k n l h ps))(a:k=6):ps≠[]:=H (.mk k n l h ps) (by simp[Cn.pre]) a
def uY:∀(a b:List Cn),Cn.sizes (a++b)=Cn.sizes a+Cn.sizes b
 |[],b=>by simp[Cn.sizes]
 |x::a,b=>by simp only[Ka,Cn.sizes,uY a b];omega
def F4(x:Cn):∀l:List Cn,Cn.sizes (EJ x l)<=x.size+Cn.sizes l
 |[]=>by simp[EJ,Cn.sizes]
 |y::l=>by
  unfold EJ;have:=F4 x l;split;(.simp[Cn.sizes]);.split;(.simp[Cn.sizes]);.simp only[Cn.sizes];omega
def DX:∀l:List Cn,Cn.sizes (oI l)<=Cn.sizes l
 |[]=>by simp[oI]
 |x::l=>by
  have a:=DX l;have b:=F4 x (oI l);unfold oI at *;rw[el_];simp only[Cn.sizes];omega
def tH:∀{l:List Cn}{p:Cn},p∈l->p.size<=Cn.sizes l
 |q::l,p,a=>by
  simp only[Cn.sizes];rcases jL.1 a with rfl|a;(.omega);.have:=tH a;omega
def F5:Cn.nil.size=1:=by simp[Cn.nil,Cn.size,Cn.sizes]
def WJ(l:List Cn):(y8 l).1.size<=Cn.sizes l+1:=by unfold y8;split;(.rename_i c h;have:=tH (hh_ h);simp only;omega);.split;(.simp[Cn.size,Cn.sizes]);(.simp[Cn.sizes]);.split;(.simp only[F5];omega);.simp[Cn.size]
def size_mk(k:Int)(n:St)(l h:Int)(ps:List Cn):(Cn.mk k n l h ps).size=Cn.sizes ps+1:=by simp[Cn.size]
def uo(q:Cn):Cn.sizes (if q.K=1 then[] else if q.K=5 then q.J else[q])<=q.size:=by obtain⟨k,n,l,h,ps⟩:=q;simp only[Cn.K,Cn.J,Cn.size];by_cases a:k=1;(.simp[a,Cn.sizes]);.by_cases b:k=5;(.simp[b]);.simp[a,b,Cn.sizes,Cn.size]
def xw:∀(ps:List Cn),(∀p∈ps,(fB p).1.size<=p.size)->Cn.sizes (meets ps).1<=Cn.sizes ps
 |[],_=>by simp[meets,Cn.sizes]
 |p::ps,h=>by
  have a:=h p S;(have b:=xw ps λq d=>h q (by simp[d]));have c:=uo (fB p).1;rw[meets];rcases g:fB p with⟨q,e⟩;rw[g]at a c;simp only at a c ⊢;split;(.simp[Cn.sizes]);.rcases i:meets ps with⟨l,f⟩;rw[i]at b;simp only at b ⊢;split;(.simp[Cn.sizes]);.simp only[Cn.sizes,uY];omega
def pF(c:Cn):(fB c).1.size<=c.size:=by
 induction c using Cn.Sc with
 |h k n l g ps b=>
  rw[fB];split;(.cases ps with|nil=>simp[Ko,F5,Cn.size]|cons p ps=>have a:=b p S;rw[Ko];rcases d:fB p with⟨q,e⟩;rw[d]at a;simp only at a ⊢;simp only[size_mk,Cn.sizes];split;(.simp only;omega);.simp only[size_mk,Cn.sizes];omega);.split;(.have a:=xw ps b;rcases f:meets ps with⟨x,e⟩;rw[f]at a;have i:=DX x;have j:=WJ (oI x);simp only at a ⊢;split;(.rw[size_mk];omega);.simp only[F5];rw[size_mk];omega);.simp
def zl(ps:List Cn):Cn×Int:=match meets ps with|(x,e)=>if e=0 then y8 (oI x) else(Cn.nil,e)
def WK{k:Int}{n:St}{l:Int}(a:k=5):fB (.mk k n l h ps)=zl ps:=by subst a;rw[fB];rfl
def Sm{k:Int}{n:St}{l:Int}{p:Cn}(a:k=6):fB (.mk k n l h (p::ps))=if(fB p).2≠0\/(fB p).1.K=2 then fB p else(.mk 6 n 0 0 [(fB p).1],0):=by subst a;rw[fB,P_ rfl,Ko]
def O7{k:Int}{n:St}{l:Int}(a:¬k=6)(b:¬k=5):fB (.mk k n l h ps)=(.mk k n l h ps,0):=by rw[fB,C_ a,C_ b]
def bits(q:Cn):List Cn:=if q.K=1 then[] else if q.K=5 then q.J else[q]
def O8:∀{ps:List Cn},(∀p∈ps,(fB p).2=0)->meets ps=(ps.flatMap λp=>bits (fB p).1,0)
 |[],_=>by simp[meets]
 |p::ps,h=>by
  have a:=h p S;(have b:=O8 λq c=>h q (YZ p c));rw[meets,b];simp only[a,ne_eq,gk_,dv_,OD];rfl
def Kz:∀{ps:List Cn}{i:Nat}{p:Cn},(∀q∈ps.take i,(fB q).2=0)->ps[i]?=some p->(fB p).2≠0->meets ps=([],(fB p).2)
 |[],i,p,_,h,_=>by simp at h
 |a::ps,0,p,_,h,he=>by
  simp at h;subst h;rw[meets];simp only[P_ he]
 |a::ps,i+1,p,hq,h,he=>by
  have b:=hq a S;have c:=Kz (ps:=ps) (i:=i) (p:=p) (λq d=>hq q (by simp[d])) (Q h) he;rw[meets,c];simp only[b,ne_eq,gk_,dv_,P_ he]
def jM(s:St):List St->St
 |[]=>[]
 |[a]=>a
 |a::b::l=>a++s++jM s (b::l)
mutual
def iX:Cn->St
 | .mk k n l h ps=>if k=1 then[101,118,101,114,121,116,104,105,110,103] else if k=2 then[110,111,116,104,105,110,103] else if k=3 then n else if k=4 then 123::n++[125]
   else if k=5 then jM [32,97,110,100,32] (Sn ps) else if k=6 then[115,111,109,101,32]++n++[32]++(Sn ps).headD []
   else n++[32,105,110,32]++Lib.itoa l++[32,116,111,32]++Lib.itoa h
def Sn:List Cn->List St
 |[]=>[]
 |c::l=>(if c.K=5 then 40::iX c++[41] else iX c)::Sn l
end
def w_(c:Cn):St:=if c.K=5 then 40::iX c++[41] else iX c
def jI:St:=[42]
def iR:St:=[33]
def j5(n:St):St:=123::n++[125]
def r_(c:Cn):St:=if c.K=1 then jI else if c.K=2 then iR else if c.K=3 then c.N else if c.K=4 then j5 c.N else 60::iX c++[62]
structure Pc where
 K:Int
 A:St
 B:St
 C:St
 R:St
 S:St
 T:St
 lo:Int
 hi:Int
 fM:Int
deriving DecidableEq
variable{P:List Pc}
structure Fc where
 K:Int
 A:St
 B:St
 R:St
 lo:Int
 hi:Int
deriving DecidableEq
variable{f:Fc}
def kF(a c:St):Pc:=⟨1,a,[],c,[],[],[],0,0,0⟩
def wP(a b c:St):Pc:=⟨2,a,b,c,[],[],[],0,0,0⟩
def mE(a r c:St):Pc:=⟨3,a,[],c,r,[],[],0,0,0⟩
def og(r a c:St):Pc:=⟨4,a,[],c,r,[],[],0,0,0⟩
def sK(r t:St):Pc:=⟨5,[],[],[],r,[],t,0,0,0⟩
def jV(r s t:St):Pc:=⟨6,[],[],[],r,s,t,0,0,0⟩
def qc(r:St):Pc:=⟨7,[],[],[],r,[],[],0,0,0⟩
def Vy(a r:St)(lo hi:Int):Pc:=⟨8,a,[],[],r,[],[],lo,hi,0⟩
def AQ(r:St)(lo hi:Int)(c:St):Pc:=⟨9,[],[],c,r,[],[],lo,hi,0⟩
def t_(a b:St):Fc:=⟨1,a,b,[],0,0⟩
def fC(a r b:St):Fc:=⟨2,a,b,r,0,0⟩
def fG(a r:St)(lo hi:Int):Fc:=⟨3,a,[],r,lo,hi⟩
def xA(first:St)(done:List Cn):List Cn->List Pc
 |[]=>[]
 |p::l=>wP first (r_ p) (r_ (.mk 5 [] 0 0 (done++[p])))::xA (r_ (.mk 5 [] 0 0 (done++[p]))) (done++[p]) l
def headA(ps:List Cn):St:=match ps with|[]=>[]|p::_=>r_ p
mutual
def iO:Cn->List Pc
 | .mk k n l h ps=>if k=5 then iT ps++(match ps with|[]=>[]|p::r=>xA (r_ p) [p] r)
   else if k=6 then iT ps++[og n (headA ps) (r_ (.mk k n l h ps))]
   else if k=7 then[AQ n l h (r_ (.mk k n l h ps))] else[]
def iT:List Cn->List Pc|[]=>[]|c::l=>iO c++iT l
end
mutual
def gL:Cn->List Pc
 | .mk k n l h ps=>if k=5 then iQ (r_ (.mk k n l h ps)) ps
   else if k=6 then mE (r_ (.mk k n l h ps)) n (headA ps)::mU ps
   else if k=7 then[Vy (r_ (.mk k n l h ps)) n l h] else[]
def iQ(a:St):List Cn->List Pc|[]=>[]|c::l=>kF a (r_ c)::(gL c++iQ a l)
def mU:List Cn->List Pc|[]=>[]|c::l=>gL c++mU l
end
def pG(first t:St):List St->List Pc
 |[]=>[]
 |[s]=>[jV first s t]
 |s::r::l=>jV first s (first++46::s)::pG (first++46::s) t (r::l)
def Ci(x:Ax):List Pc:=
 if x.K=1 then iO x.L++gL x.R++[kF (r_ x.L) (r_ x.R)]
 else if x.K=2 then iO x.L++gL x.R++[kF (r_ x.L) (r_ x.R)]++iO x.R++gL x.L++[kF (r_ x.R) (r_ x.L)]
 else if x.K=3 then iO x.L++iO x.R++[wP (r_ x.L) (r_ x.R) iR]
 else if x.K=4 then gL x.R++[og x.U jI (r_ x.R)]
 else if x.K=5 then[sK (x.H.headD []) x.U]
 else if x.K=6 then pG (x.H.headD []) x.U x.H.tail
 else if x.K=7 then[qc x.U]
 else if x.K=8 then gL x.R++[kF (j5 x.a) (r_ x.R)]
 else if x.K=9 then[mE (j5 x.a) x.U (j5 x.b)] else[]
def rz(l:List Pc):List Pc:=l.foldl (λa p=>if p∈a then a else a++[p]) []
def o_(n:Int)(p:Pc):Pc:={p with fM:=n}
def jl:Nat->List Ax->List Pc
 |_,[]=>[]
 |n,x::l=>(rz (Ci x)).map (o_ n)++jl (n+1) l
def fH(l:List Ax):List Pc:=jl 0 l
def fE(a:St):Pc:=kF a jI
def ng(x:Ax):List Pc:=
 if x.K=1 then[fE (r_ x.L),fE (r_ x.R)]++gL x.L++iO x.R
 else if x.K=2 then[fE (r_ x.L),fE (r_ x.R)]++gL x.L++iO x.R++gL x.R++iO x.L
 else if x.K=3 then let y:=60::w_ x.L++[32,97,110,100,32]++w_ x.R++[62]
  [fE y,fE iR,kF y (r_ x.L)]++gL x.L++[kF y (r_ x.R)]++gL x.R
 else if x.K=4 then let y:=[60,115,111,109,101,32]++x.U++[32,101,118,101,114,121,116,104,105,110,103,62]
  [fE y,fE (r_ x.R),mE y x.U jI]++iO x.R
 else if x.K=8 then[fE (j5 x.a),fE (r_ x.R)]++iO x.R
 else if x.K=9 then[fE (j5 x.a),fE (j5 x.b)] else[]
def lM(x:Ax):List Fc:=
 if x.K=1 then[t_ (r_ x.L) (r_ x.R)]
 else if x.K=2 then[t_ (r_ x.L) (r_ x.R),t_ (r_ x.R) (r_ x.L)]
 else if x.K=3 then[t_ (60::w_ x.L++[32,97,110,100,32]++w_ x.R++[62]) iR]
 else if x.K=4 then[t_ ([60,115,111,109,101,32]++x.U++[32,101,118,101,114,121,116,104,105,110,103,62]) (r_ x.R)]
 else if x.K=8 then[t_ (j5 x.a) (r_ x.R)]
 else if x.K=9 then[fC (j5 x.a) x.U (j5 x.b)] else[]
def nA(x:Ax):List Pc:=(rz (ng x)).map (o_ (-1))
def uZ(x y:Fc):Int:=lN (iw x.K y.K) (lN (fV x.A y.A) (lN (fV x.B y.B) (lN (fV x.R y.R) (lN (iw x.lo y.lo) (iw x.hi y.hi)))))
def CF{x y:Fc}:uZ x y=0↔x=y:=by unfold uZ;simp only[wV,Ck,uh];obtain⟨a,b,c,d,e,f⟩:=x;obtain⟨g,h,i,d',j,k⟩:=y;simp only[Fc.mk.injEq]
def O9(x y:Fc):uZ y x= -uZ x y:=by unfold uZ;simp only[Fj,<-FP,<-FQ]
def Zm(x y z:Fc):FN (uZ x y) (uZ y z) (uZ x z):=by unfold uZ;exact(nH _ _ _).or λ_ _=>(oG _ _ _).or λ_ _=>(oG _ _ _).or λ_ _=>(oG _ _ _).or λ_ _=>(nH _ _ _).or λ_ _=>nH _ _ _
abbrev Sq(a b:Fc):Prop:=uZ a b<0
def KA{a b c:Fc}(d:Sq a b)(e:Sq b c):Sq a c:=(Zm a b c).1 d e
def Sr(a:Fc):¬Sq a a:=by unfold Sq;rw[CF.2 rfl];decide
def uq(P:List Pc)(q:Pc):Prop:=∃x∈P,o_ 0 x=q
def mF(P:List Pc)(s:St):Prop:=s=jI\/s=iR\/(s≠[]/\∃x∈P,x.A=s\/x.B=s\/x.C=s)
inductive kC(P:List Pc):Fc->Prop
 |refl {a:St}:mF P a->kC P (t_ a a)
 |top {a:St}:mF P a->kC P (t_ a jI)
 |loop {a r:St}:mF P a->uq P (qc r)->kC P (fC a r a)
 |sub {a b c:St}:kC P (t_ a b)->uq P (kF b c)->kC P (t_ a c)
 |both {a b d c:St}:kC P (t_ a b)->kC P (t_ a d)->uq P (wP b d c)->kC P (t_ a c)
 |some {a b r c:St}:kC P (t_ a b)->uq P (mE b r c)->kC P (fC a r c)
 |U {a r b t:St}:kC P (fC a r b)->uq P (sK r t)->kC P (fC a t b)
 |chain {a r b s c t:St}:kC P (fC a r b)->kC P (fC b s c)->uq P (jV r s t)->kC P (fC a t c)
 |fill {a r b c d:St}:kC P (fC a r b)->kC P (t_ b c)->uq P (og r c d)->kC P (t_ a d)
 |none {a r b:St}:kC P (fC a r b)->kC P (t_ b iR)->kC P (t_ a iR)
 |value {a b r:St} {l h:Int}:kC P (t_ a b)->uq P (Vy b r l h)->kC P (fG a r l h)
 |meet {a r:St} {l h l' h':Int}:kC P (fG a r l h)->kC P (fG a r l' h')->max l l'<=min h h'->kC P (fG a r (max l l') (min h h'))
 |apart {a r:St} {l h l' h':Int}:kC P (fG a r l h)->kC P (fG a r l' h')->min h h'<max l l'->kC P (t_ a iR)
 |out {a r c:St} {l h l' h':Int}:kC P (fG a r l h)->uq P (AQ r l' h' c)->l'<=l->h<=h'->kC P (t_ a c)
def Pb{Q:List Pc}(h:∀x∈P,∃y∈Q,o_ 0 y=o_ 0 x)(b:mF P s):mF Q s:=by rcases b with a|a|⟨c,x,d,a⟩;(.exact .inl a);(.exact .inr (.inl a));.obtain⟨y,f,e⟩:=h x d;have g:y.A=x.A:=(show(o_ 0 y).A=(o_ 0 x).A by rw[e]);have i:y.B=x.B:=(show(o_ 0 y).B=(o_ 0 x).B by rw[e]);have j:y.C=x.C:=(show(o_ 0 y).C=(o_ 0 x).C by rw[e]);exact .inr (.inr ⟨c,y,f,by rwa[g,i,j]⟩)
def kC.mono{Q:List Pc}(h:∀x∈P,∃y∈Q,o_ 0 y=o_ 0 x)(H:kC P f):kC Q f:=by
 (have d:∀{q:Pc},uq P q->uq Q q:=λ⟨x,j,e⟩=>by obtain⟨y,k,l⟩:=h x j;exact⟨y,k,l.trans e⟩);have i:=λ{s:St}(m:mF P s)=>Pb h m
 induction H with
 |refl g=>exact .refl (i g)
 |top g=>exact .top (i g)
 |loop g b=>exact .loop (i g) (d b)
 |sub _ b a=>exact .sub a (d b)
 |both _ _ c a I=>exact .both a I (d c)
 |some _ b a=>exact .some a (d b)
 |U _ b a=>exact .U a (d b)
 |chain _ _ c a I=>exact .chain a I (d c)
 |fill _ _ c a I=>exact .fill a I (d c)
 |none _ _ a I=>exact .none a I
 |value _ b a=>exact .value a (d b)
 |meet _ _ c a I=>exact .meet a I c
 |apart _ _ c a I=>exact .apart a I c
 |out _ b c n a=>exact .out a (d b) c n
def oh(P:List Pc)(l:List Fc):Prop:=l.Pairwise Sq/\∀f,f∈l↔kC P f
def qK(P:List Pc)(n:Nat):Prop:=∃l:List Fc,l.Nodup/\(∀f∈l,kC P f)/\n<l_ l
inductive nC(L:List Ax):St->St->Prop
 |refl (r:St):nC L r r
 |step {r s t:St} {x:Ax}:nC L r s->x∈L->x.K=5->x.H.headD []=s->x.U=t->nC L r t
def pW(x:Ax)(i:Nat):Bool:=
 if x.H.getD i []≠x.U then false else
 let m:=x.H.count x.U
 (m==1&&(i==0||i+1==l_ x.H))||(m==2&&x.H.length==2)
def rA(L:List Ax)(r s:St)(strict:Bool):Prop:=
 (strict=false/\∃x∈L,x.K=5/\x.H.headD []=r/\x.U=s/\r≠s)\/
 (strict=true/\∃x∈L,x.K=6/\x.U=s/\∃i,x.H[i]?=some r/\pW x i=false)
inductive mG(L:List Ax):St->St->Bool->Prop
 |one {r s:St} {b:Bool}:rA L r s b->mG L r s b
 |more {r s t:St} {b c:Bool}:mG L r s b->rA L s t c->mG L r t (b||c)
def u7(L:List Ax):Prop:=∃r,mG L r r true
def rA.mono{M:List Ax}(h:∀x∈L,x∈M)(e:rA L r s b):rA M r s b:=by rcases e with⟨a,x,c,d⟩|⟨a,x,c,d⟩;(.exact .inl ⟨a,x,h x c,d⟩);.exact .inr ⟨a,x,h x c,d⟩
def mG.mono{M:List Ax}(h:∀x∈L,x∈M)(a:mG L r s b):mG M r s b:=by
 induction a with
 |one c=>exact .one (c.mono h)
 |more _ d e=>exact .more e (d.mono h)
def u7.mono{M:List Ax}(h:∀x∈L,x∈M)(H:u7 L):u7 M:=by obtain⟨r,a⟩:=H;exact⟨r,a.mono h⟩
def nC.mono{M:List Ax}(h:∀x∈L,x∈M)(a:nC L r s):nC M r s:=by
 induction a with
 |refl=>exact .refl r
 |step _ b c d e f=>exact .step f (h _ b) c d e
inductive Item(L:List Ax)(w:List St):St->Nat->Nat->Prop
 |at_ {i:Nat} {r:St}:w[i]?=some r->Item L w r i (i+1)
 |refl {x:Ax} {i:Nat}:x∈L->x.K=7->i<=l_ w->Item L w x.U i i
 |up {x:Ax} {f t:Nat}:x∈L->x.K=5->Item L w (x.H.headD []) f t->Item L w x.U f t
 |link {x:Ax} {k f m t:Nat}:x∈L->x.K=6->0<k->k<l_ x.H->Item L w (jM [46] (x.H.take k)) f m->Item L w (x.H.getD k []) m t->Item L w (if k+1=l_ x.H then x.U else jM [46] (x.H.take (k+1))) f t
def Item.mono{M:List Ax}(h:∀x∈L,x∈M){w:List St}{f:Nat}(d:Item L w r f t):Item M w r f t:=by
 induction d with
 |at_ a=>exact .at_ a
 |refl a b c=>exact .refl (h _ a) b c
 |up a b _ e=>exact .up (h _ a) b e
 |link a b c g _ _ i I=>exact .link (h _ a) b c g i I
def KC(L:List Ax)(w:List St)(r:St):Prop:=Item L w r 0 (l_ w)
def mV(L:List Ax)(a:Ax):List Pc:=fH L++nA a
def ug(L:List Ax)(a:Ax):Prop:=
 if a.K=5 then nC L (a.H.headD []) a.U
 else if a.K=6 then KC L a.H a.U
 else if a.K=7 then ∃x∈L,x.K=7/\nC L x.U a.U
 else ∀f∈lM a,kC (mV L a) f\/kC (mV L a) (t_ f.A iR)
def oK{y:Pc}:∀{n:Nat}{L:List Ax},y∈jl n L↔∃i x,L[i]?=some x/\∃z∈rz (Ci x),y=o_ (n+i:Nat) z
 |n,[]=>by simp[jl]
 |n,x::l=>by
  rw[jl,iq,pq,oK];constructor;.rintro(⟨z,b,rfl⟩|⟨i,c,a,z,b,rfl⟩);(.exact⟨0,x,rfl,z,b,rfl⟩);.exact⟨i+1,c,Q a,z,b,by congr 2;omega⟩
  .rintro⟨i,c,a,z,b,rfl⟩
   match i,a with
   |0,a=>simp at a;subst a;exact .inl ⟨z,b,rfl⟩
   |i+1,a=>exact .inr ⟨i,c,Q a,z,b,by congr 2;omega⟩
def xB{M:List Ax}(h:∀x∈L,x∈M):∀y∈fH L,∃z∈fH M,o_ 0 z=o_ 0 y:=λy a=>by obtain⟨i,x,b,z,c,rfl⟩:=oK.1 a;obtain⟨j,d⟩:=WE (h x (gV b));exact⟨_,oK.2 ⟨j,x,d,z,c,rfl⟩,rfl⟩
def AU{M:List Ax}(h:∀x∈L,x∈M)(a:Ax):∀y∈mV L a,∃z∈mV M a,o_ 0 z=o_ 0 y:=λy b=>by rcases iq.1 b with b|b;(.obtain⟨z,c,e⟩:=xB h y b;exact⟨z,iq.2 (.inl c),e⟩);.exact⟨y,iq.2 (.inr b),rfl⟩
def ug.mono{M:List Ax}(h:∀x∈L,x∈M){a:Ax}(H:ug L a):ug M a:=by unfold ug at *;by_cases c:a.K=5;(.rw[P_ c]at H ⊢;exact H.mono h);.by_cases d:a.K=6;(.rw[C_ c,P_ d]at H ⊢;exact Item.mono h H);.by_cases e:a.K=7;(.rw[C_ c,C_ d,P_ e]at H ⊢;obtain⟨x,g,b,i⟩:=H;exact⟨x,h x g,b,i.mono h⟩);.rw[C_ c,C_ d,C_ e]at H ⊢;intro f j;rcases H f j with b|b;(.exact .inl (b.mono (AU h a)));.exact .inr (b.mono (AU h a))
def qK.mono{Q:List Pc}(h:∀x∈P,∃y∈Q,o_ 0 y=o_ 0 x)(a:qK P n):qK Q n:=by obtain⟨l,b,c,d⟩:=a;exact⟨l,b,λf H=>(c f H).mono h,d⟩
def Bad(L:List Ax):Prop:=∃f,kC (fH L) f/\f.K=1/\f=t_ f.A iR/\(f.A=jI\/f.A.head?=some 123)
def Bad.mono{M:List Ax}(h:∀x∈L,x∈M)(hb:Bad L):Bad M:=by obtain⟨f,a,b⟩:=hb;exact⟨f,a.mono (xB h),b⟩
section
open Go.Maps (Keyed)
variable{a:Act}{c:Array Oper}{P:Program}{k t:T_}
def AX(v:V_):Option (DataW V_×List MemPlace):=some (.held v,[])
structure KK(P:Program)(k:T_)(κ:Type) where
 kv:κ->V_
 kl:κ->Lit
 ok:κ->Prop
 keyed:Keyed P k
 key:∀x,ok x->keyOf P k (kv x)=some (kl x)
 inj:∀x y,ok x->ok y->kl x=kl y->x=y
section
variable{a:Addr}
variable{P:Program}{k:T_}{κ:Type}{w w':W_}{b n:Nat}{f:κ->Option V_}
def upd[DecidableEq κ](f:κ->Option V_)(x:κ)(u:Option V_):κ->Option V_:=λy=>if y=x then u else f y
def h_(w:W_)(K:KK P k κ)(b n:Nat)(f:κ->Option V_):Prop:=∃D:DataW V_,w.ownsMap P k AX b n D/\(∀x,K.ok x->(Maps.has D (K.kl x)=(f x).isSome/\∀z,D.atKey (K.kl x) z=match f x with|some u=> .held u|none=>z))/\ (∃e,D=.map e/\∀p∈e,∃x,K.ok x/\p.1=K.kl x)
def mem_insert(x:Lit×DataW H):∀(l:List (Lit×DataW H))(p:Lit×DataW H),p∈DataW.insert x l->p=x\/p∈l
 |[],p,h=>by simp[DataW.insert]at h;exact .inl h
 |y::r,p,h=>by
  unfold DataW.insert at h;split at h;(.rcases jL.1 h with h|h;(.exact .inl h);.exact .inr h);.rcases jL.1 h with h|h;(.exact .inr (by rw[h];exact gf_));.rcases mem_insert x r p h with h|h;(.exact .inl h);.exact .inr (YZ _ h)
def h_.lt{K:KK P k κ}(h:h_ w K b n f):b<w:=by obtain⟨D,a,_⟩:=h;exact a.lt
def h_.made(w:W_)(K:KK P k κ):h_ (w.alloc (.map #[] 0)) K w 0 (λ_=>none):=⟨.map [],World.ownsMap_made w P k AX,λ_ _=>⟨rfl,λ_=>rfl⟩,[],rfl,λ_ h=>by cases h⟩
def h_.mono{K:KK P k κ}(h:h_ w K b n f)(a:n<=n'):h_ w K b n' f:=by obtain⟨D,c,d⟩:=h;exact⟨D,c.mono a,d⟩
def h_.kept{K:KK P k κ}(h:h_ w K b n f)(a:w.grownBy w' row)(e:some b≠row):h_ w' K b n f:=by obtain⟨D,c,d⟩:=h;exact⟨D,c.kept a e,d⟩
def h_.up{K:KK P k κ}(h:h_ w K b n f)(hb:Below w w w'):h_ w' K b n f:=h.kept (row:=none) ⟨hb.os,hb.tape,hb.output,hb.size,λk a _=>hb.block k a⟩ S
def h_.alloc{K:KK P k κ}(h:h_ w K b n f)(o:Obj):h_ (w.alloc o) K b n f:=h.kept (dy_ w o none) S
def h_.drew{K:KK P k κ}(h:h_ w K b n f):h_ w.drew K b n f:=h
def h_.drewN{K:KK P k κ}(h:h_ w K b n f)(q:Nat):h_ (w.drewN q) K b n f:=h
def h_.setCell{K:KK P k κ}(h:h_ w K b n f)(c:b≠a.block)(u:V_):h_ (w.setCell a u) K b n f:=by obtain⟨D,d,e⟩:=h;exact⟨D,d.setCell c u,e⟩
def h_.congr{K:KK P k κ}{g:κ->Option V_}(h:h_ w K b n f)(e:∀x,K.ok x->f x=g x):h_ w K b n g:=by obtain⟨D,c,d,i⟩:=h;exact⟨D,c,λx a=>by rw[<-e x a];exact d x a,i⟩
def h_.look{K:KK P k κ}(h:h_ w K b n f)(c:P.underlying t=some (.map k e)){z:V_}(d:(zeroValue e).run P w=.ok z w){x:κ}(a:K.ok x):(Instr.lookup t (.map (some b)) (K.kv x) false).run P w=.ok ((f x).getD z) w:=by
 obtain⟨D,g,i,_⟩:=h;obtain⟨v,ps,j,H⟩:=g.lookup K.keyed c d (zd:= .held z) (zp:=[]) rfl (K.key x a);rw[j];have:=(i x a).2 (.held z);rw[this]at H;unfold AX at H
 cases l:f x with
 |none=>rw[l]at H;simp at H;rw[H.1];rfl
 |some u=>rw[l]at H;simp at H;rw[H.1];rfl
def h_.look_ok{K:KK P k κ}(h:h_ w K b n f)(d:P.underlying t=some (.map k e)){z:V_}(g:(zeroValue e).run P w=.ok z w){x:κ}(a:K.ok x):(Instr.lookup t (.map (some b)) (K.kv x) true).run P w=.ok (.tuple #[(f x).getD z,(f x).isSome]) w:=by
 obtain⟨D,i,c,_⟩:=h;obtain⟨v,ps,j,H⟩:=i.look_ok K.keyed d g (zd:= .held z) (zp:=[]) rfl (K.key x a);rw[j,(c x a).1];have:=(c x a).2 (.held z);rw[this]at H;unfold AX at H
 cases l:f x with
 |none=>rw[l]at H;simp at H;rw[H.1];rfl
 |some u=>rw[l]at H;simp at H;rw[H.1];rfl
theorem h_.put[DecidableEq κ]{K:KK P k κ}(h:h_ w K b n f)(o:P.underlying t=some (.map k e))(q:n<m_){x:κ}(a:K.ok x)(u:V_):∃w',(Instr.mapUpdate t (.map (some b)) (K.kv x) u).run P w=.ok () w'/\h_ w' K b (n+1) (upd f x (some u))/\w.grownBy w' (some b):=by obtain⟨D,r,j,C,rfl,s⟩:=h;obtain⟨w',v,A,B⟩:=r.update K.keyed o q (val:=u) (d:= .held u) (ps:=[]) (K.key x a) rfl;refine⟨w',v,⟨_,A,λy c=>?_,_,rfl,λp g=>?_⟩,B⟩;(.have l:=K.keyed.key (K.key x a);unfold upd;by_cases i:y=x;(.subst i;rw[P_ rfl];exact⟨bw_ ⟨_,rfl⟩ l _,λz=>Maps.atKey_put_same ⟨_,rfl⟩ l _ z⟩);.rw[C_ i];(have m:K.kl y≠K.kl x:=λe=>i (K.inj _ _ c a e));exact⟨(Maps.has_put_other m _).trans (j y c).1,λz=>(Maps.atKey_put_other m _ z).trans ((j y c).2 z)⟩);.rcases mem_insert _ _ _ g with rfl|g;(.grind);grind
def h_.del[DecidableEq κ]{K:KK P k κ}(h:h_ w K b n f)(l:P.underlying t=some (.map k e)){x:κ}(d:K.ok x)(g:T_):∃w',(Builtin.delete_ #[t,k] g #[.map (some b),K.kv x]).run P w=.ok (.tuple #[]) w'/\h_ w' K b n (upd f x none)/\w.grownBy w' (some b):=by obtain⟨D,m,i,v,rfl,o⟩:=h;obtain⟨w',q,r,s⟩:=m.drop K.keyed l (K.key x d) g;refine⟨w',q,⟨_,r,λy a=>?_,_,rfl,λp u=>o p (y5.1 u).1⟩,s.grown⟩;unfold upd;by_cases c:y=x;(.subst c;rw[P_ rfl];exact⟨Maps.has_del_same,λz=>Maps.atKey_del_same z⟩);.rw[C_ c];(have j:K.kl y≠K.kl x:=λe=>c (K.inj _ _ a d e));exact⟨(Maps.has_del_other j).trans (i y a).1,λz=>(Maps.atKey_del_other j z).trans ((i y a).2 z)⟩
def h_.len{K:KK P k κ}(h:h_ w K b n f)(q:P.underlying t=some (.map k e))(l:T_):∃m:Nat,(Builtin.len_ #[t] l #[.map (some b)]).run P w=.ok (.int .i64 m) w/\(m=0↔∀x,K.ok x->f x=none)/\m<=n:=by
 obtain⟨D,o,c,d,rfl,g⟩:=h;refine⟨_,o.len q l,?_,o.size_le⟩;rw[Maps.size_eq];constructor
 .intro i x a
  have y:d=[]:=Jg i;subst y;have:=(c x a).1
  cases z:f x with
  |none=>rfl
  |some u=>rw[z]at this;cases this
 .intro i
  match d,g,c with
  |[],_,_=>rfl
  |p::d,g,c=>
   obtain⟨x,a,r⟩:=g p S;have j:=(c x a).1;rw[i x a,bv_,List.any_cons,r]at j;(have s:(K.kl x).sameKey (K.kl x)=true:=by have v:=K.keyed.key (K.key x a);have:=bw_ (D:= .map []) ⟨_,rfl⟩ v (DataW.held (H:=V_) (.bool true));simpa[bv_,DataW.put,DataW.insert]using this);rw[s]at j;cases j
end
section
variable{P:Program}{k:T_}{κ:Type}[DecidableEq κ]
def iI(w:W_){R:List Oper}{Q:Exit->Act->W_->Prop}(d:o.guard=none)(m x v:Operand)(t:T_)(r:o.op=Op.mapUpdate t m x v)(e:T_)(K:KK P k κ)(g:P.underlying t=some (.map k e))(b n:Nat)(f:κ->Option V_)(h:a.eval m=.map (some b))(A:h_ w K b n f)(i:n<m_)(y:κ)(j:K.ok y)(u:V_)(l:a.eval x=K.kv y)(H:a.eval v=u)(p:∀w',h_ w' K b (n+1) (upd f y (some u))->w.grownBy w' (some b)->wpList P c Q R (a.put o.dst undef) w'):wpList P c Q (o::R) a w:=by(refine gt_ d λC s=>?_);obtain⟨w',B,z,q⟩:=A.put g i j u;unfold Oper.wp;simp[execOp,r,h,l,H,B,Result.andThen];exact s _ _ (p w' z q)
def Sv(w:W_){R:List Oper}{Q:Exit->Act->W_->Prop}(d:o.guard=none)(m x:Operand)(t:T_)(q:o.op=Op.call {callee:=Callee.builtin Builtin.delete,args:= #[m,x],argTypes:= #[t,k]})(e:T_)(K:KK P k κ)(g:P.underlying t=some (.map k e))(b n:Nat)(f:κ->Option V_)(h:a.eval m=.map (some b))(s:h_ w K b n f)(y:κ)(i:K.ok y)(j:a.eval x=K.kv y)(l:∀w',h_ w' K b n (upd f y none)->w.grownBy w' (some b)->wpList P c Q R (a.put o.dst (.tuple #[])) w'):wpList P c Q (o::R) a w:=by(refine gt_ d λv r=>?_);obtain⟨w',u,z,p⟩:=s.del g i o.type;unfold Oper.wp execOp;simp only[q,resolve,invoke,builtin,Sem.run_bind,Sem.run_pure,Result.andThen_ok,List.map_toArray,Zc,List.map_nil,h,j,u];exact r _ _ (l w' z p)
end
def qD(x:Int):Prop:=(Lit.int .i64 x).wf=true
def adz(H:P.underlying k=some (.int .i64)):KK P k Int:=⟨λx=> .int .i64 x,λx=> .int .i64 x,qD,Maps.int_keyed H,λ_ a=>Maps.keyOf_int_mk H a,λx y _ _ h=>by injection h⟩
def adA(H:P.underlying k=some .string):KK P k (List UInt8):=
 ⟨λs=> .string ⟨s.toArray⟩,λs=> .string s,λs=>l_ s<=m_,Maps.string_keyed H,λs a=>by
  have:=WideMaps.keyOf_string_mk H (s:=⟨s.toArray⟩) a
  simpa using this,λx y _ _ h=>by injection h⟩
end
abbrev Stp:=St×St×Bool
def OE(x:Ax)(i:Nat):List Stp:=((List.range i).filter λj=> !pW x j).map λj=>(x.H.getD j [],x.U,true)
def Y1(x:Ax):List Stp:=
 if x.K=5 then(if x.H.headD []=x.U then[] else[(x.H.headD [],x.U,false)])
 else if x.K=6 then OE x (l_ x.H) else[]
def tr(L:List Ax):List Stp:=L.flatMap Y1
def xC(F:St->St->Option Bool)(r s:St)(t:Bool):St->St->Option Bool:=λR S=>if R=r/\S=s then some ((F r s).getD false||t) else F R S
def sM(T:List Stp):St->St->Option Bool:=T.foldl (λF t=>xC F t.1 t.2.1 t.2.2) λ_ _=>none
def zO(T:List Stp)(r s:St)(t:Bool):sM (T++[(r,s,t)])=xC (sM T) r s t:=by simp[sM]
def Zn(x:Ax):OE x 0=[]:=rfl
def ace{x:Ax}(a:x.H[i]?=some r)(h:pW x i=false):OE x (i+1)=OE x i++[(r,x.U,true)]:=by(have e:x.H.getD i []=r:=by rw[R3,a];rfl);simp[OE,dl_,Y9,h,a]
def ad4{x:Ax}(h:pW x i=true):OE x (i+1)=OE x i:=by simp[OE,dl_,Y9,h]
def Fu{x:Ax}(h:L[k]?=some x):tr (L.take (k+1))=tr (L.take k)++Y1 x:=by obtain⟨a,e⟩:=jv.1 h;rw[Fh a,e];simp[tr]
def Vz(x:Ax)(i:Nat):l_ (OE x i)<=i:=by unfold OE;rw[qm];exact gY (OA _ _) S
def acf{x:Ax}(h:l_ x.H<=1000000):l_ (Y1 x)<=1000000:=by unfold Y1;by_cases a:x.K=5;(.rw[P_ a];split<;>simp);.rw[C_ a];by_cases b:x.K=6;(.rw[P_ b];exact gY (Vz _ _) h);.rw[C_ b];simp
def Sw:∀{L:List Ax},(∀x∈L,l_ x.H<=1000000)->l_ (tr L)<=l_ L*1000000
 |[],_=>by simp[tr]
 |x::l,h=>by
  have c:=acf (h x S);(have a:=Sw (L:=l) λy b=>h y (by simp[b]));simp only[tr,OD,ny,p8]at a ⊢;omega
def VA{x:Ax}{t:Bool}(p:n<=l_ x.H):(r,s,t)∈OE x n↔t=true/\s=x.U/\∃i,i<n/\x.H[i]?=some r/\pW x i=false:=by unfold OE;constructor;(.intro h;obtain⟨j,b,e⟩:=pq.1 h;obtain⟨c,d⟩:=y5.1 b;have m:j<n:=Q c;injection e with f a;injection a with a g;have o:j<l_ x.H:=U;refine⟨g.symm,a.symm,j,m,?_,Q d⟩;rw[<-f,R3,r9 o];rfl);.rintro⟨rfl,rfl,i,hi,k,l⟩;refine pq.2 ⟨i,y5.2 ⟨Q hi,by simp[l]⟩,?_⟩;rw[R3,k];rfl
def F7{t:Bool}:(r,s,t)∈tr L↔rA L r s t:=by unfold tr rA;rw[gh_];constructor;(.rintro⟨x,a,h⟩;unfold Y1 at h;by_cases b:x.K=5;(.rw[P_ b]at h;by_cases e:x.H.headD []=x.U;(.rw[P_ e]at h;cases h);.rw[C_ e]at h;have:=gW.1 h;injection this with f d;injection d with d j;exact .inl ⟨j,x,a,b,f.symm,d.symm,by rwa[f,d]⟩);.rw[C_ b]at h;by_cases c:x.K=6;(.rw[P_ c]at h;obtain⟨k,l,i,_,m,n⟩:=(VA (gH _)).1 h;exact .inr ⟨k,x,a,c,l.symm,i,m,n⟩);.rw[C_ c]at h;cases h);.rintro(⟨rfl,x,a,b,rfl,rfl,p⟩|⟨rfl,x,a,c,rfl,i,g,o⟩);(.refine⟨x,a,?_⟩;unfold Y1;rw[P_ b,C_ p];simp);.refine⟨x,a,?_⟩;unfold Y1;rw[C_ U,P_ c];exact(VA (gH _)).2 ⟨rfl,rfl,i,(jv.1 g).1,g,o⟩
def KD{P:List α->Prop}(a:P [])(b:∀l x,P l->P (l++[x])):∀l,P l:=λl=>by
 rw[<-List.reverse_reverse l]
 induction l.reverse with
 |nil=>exact a
 |cons x r c=>rw[List.reverse_cons];exact b _ _ c
def vg:∀(T:List Stp)(r s:St)(b:Bool),sM T r s=some b↔(∃t,(r,s,t)∈T)/\(b=true↔(r,s,true)∈T):=by
 refine KD ?_ ?_;.intro r s b;simp[sM]
 .rintro T ⟨g,i,t⟩ a r s b
  rw[zO];unfold xC;by_cases h:r=g/\s=i
  .obtain⟨rfl,rfl⟩:=h
   rw[P_ ⟨rfl,rfl⟩]
   have K:(sM T r s).getD false=true↔(r,s,true)∈T:=by
    cases H:sM T r s with
    |none=>
     constructor;(.intro h;cases h);.intro j;have:=(a r s true).2 ⟨⟨true,j⟩,by simp[j]⟩;rw[H]at this;cases this
    |some c=>
     have:=(a r s c).1 H;simpa using this.2
   constructor;(.intro e;injection e with e;refine⟨⟨t,S⟩,?_⟩;rw[<-e,WB,K];simp[eq_comm]);.rintro⟨_,hb⟩;congr 1;rw[Zd,hb,WB,K];simp[eq_comm]
  .rw[C_ h,a];(have:∀d,(r,s,d)∈T++[(g,i,t)]↔(r,s,d)∈T:=λd=>by simp only[iq,gW];constructor;(.rintro(k|e);(.exact k);.injection e with l f;injection f with f _;exact absurd ⟨l,f⟩ h);.exact .inl);simp only[this]
noncomputable def jS (p:Prop):Bool:= @decide p (Classical.propDecidable p)
theorem jE:jS p=true↔p:=by unfold jS;grind
def fQ(h:p):jS p=true:=jE.2 h
def fF(h:¬p):jS p=false:=by
 cases e:jS p with
 |false=>rfl
 |true=>exact absurd (jE.1 e) h
theorem yG{q:Prop}(h:p↔q):jS p=jS q:=by grind
theorem jF:jS p=false↔¬p:=by constructor;(.intro h a;rw[fQ a]at h;grind);.exact fF
def drop_cons{x:α}(h:l[k]?=some x):l.drop k=x::l.drop (k+1):=by obtain⟨a,rfl⟩:=jv.1 h;exact Jd a
def G_{x:α}(h:l[k]?=some x):l.take (k+1)=l.take k++[x]:=by rw[DL,h];rfl
def get_some(h:k<l_ l):∃x,l[k]?=some x:=⟨l[k],r9 h⟩
abbrev Inc(l:List Int):Prop:=l.Pairwise (·<·)
def Valid(l:I_):Prop:=(∀x∈l,0<=x/\x<=1023)/\Inc l
def j6(L:H_):Prop:=∀l∈L,Valid l
theorem wF{l:I_}(b:l[k]?=some x)(h:Valid (l.take k))(f:0<=x)(g:x<=1023)(j:∀y,0<k->l[k-1]?=some y->y<x):Valid (l.take (k+1)):=by rw[G_ b];refine⟨λy a=>?_,am_.2 ⟨h.2,an_ _ _,λy a z c=>?_⟩⟩;(.rcases iq.1 a with a|a;(.exact h.1 y a);grind);.simp at c;subst c;obtain⟨i,hi,rfl⟩:=ad_ a;(have n:i<k:=by rw[wE]at hi;omega);have m:k<l_ l:=(jv.1 b).1;have hl:=j (l[k-1]'U_) U (r9 _);rw[ag_];by_cases e:i=k-1;(.grind);.have d:=R7.1 h.2 i (k-1) hi (by grind) U;grind
def F8{l:I_}(h:Valid l)(a:l[k]?=some x):0<=x/\x<=1023/\∀y,0<k->l[k-1]?=some y->y<x:=by have b:=h.1 x (gV a);refine⟨b.1,b.2,λy f c=>?_⟩;obtain⟨d,rfl⟩:=jv.1 a;obtain⟨e,rfl⟩:=jv.1 c;exact R7.1 h.2 (k-1) k e d U
def cmpL:I_->I_->Int
 |[],[]=>0
 |[],_::_=> -1
 |_::_,[]=>1
 |x::a,y::b=>if x<y then-1 else if y<x then 1 else cmpL a b
def mW(a b:I_):Int:=if l_ a<l_ b then-1 else if l_ b<l_ a then 1 else cmpL a b
def acg{b:I_}(c:a[k]?=some x)(d:b[k]?=some y)(h:x<y):cmpL (a.drop k) (b.drop k)= -1:=by rw[drop_cons c,drop_cons d,cmpL,P_ h]
def ach{b:I_}(c:a[k]?=some x)(d:b[k]?=some y)(h:y<x):cmpL (a.drop k) (b.drop k)=1:=by rw[drop_cons c,drop_cons d,cmpL,C_ U,P_ h]
def cmpL_eq{b:I_}(c:a[k]?=some x)(d:b[k]?=some x):cmpL (a.drop k) (b.drop k)=cmpL (a.drop (k+1)) (b.drop (k+1)):=by rw[drop_cons c,drop_cons d,cmpL,C_ (ge_ _),C_ (ge_ _)]
def Sy{b:I_}(c:k<l_ a)(h:l_ b<=k):cmpL (a.drop k) (b.drop k)=1:=by obtain⟨x,d⟩:=get_some c;rw[drop_cons d,hb_ h,cmpL]
def Zo{b:I_}(h:l_ a<l_ b):cmpL (a.drop (l_ a)) (b.drop (l_ a))= -1:=by obtain⟨x,c⟩:=get_some h;rw[R9,drop_cons c,cmpL]
def WL{b:I_}(h:l_ b<=l_ a):cmpL (a.drop (l_ a)) (b.drop (l_ a))=0:=by rw[R9,hb_ h,cmpL]
def KE:∀{a b:I_},cmpL a b=0↔a=b
 |[],[]=>by simp[cmpL]
 |[],_::_=>by simp[cmpL]
 |_::_,[]=>by simp[cmpL]
 |x::a,y::b=>by
  rw[cmpL];by_cases c:x<y;(.rw[P_ c];constructor;(.intro h;cases h);.intro h;injection h with h;omega);.by_cases d:y<x;(.rw[C_ c,P_ d];constructor;(.intro h;cases h);.intro h;injection h with h;omega);.rw[C_ c,C_ d,KE];have:x=y:=U;subst this;simp
def Pd:∀{a b:I_},cmpL a b<0↔0<cmpL b a
 |[],[]=>by simp[cmpL]
 |[],_::_=>by simp[cmpL]
 |_::_,[]=>by simp[cmpL]
 |x::a,y::b=>by
  rw[cmpL,cmpL];by_cases c:x<y;(.rw[P_ c,C_ U,P_ c];decide);.by_cases d:y<x;(.rw[C_ c,P_ d,P_ d];decide);.rw[C_ c,C_ d,C_ d,C_ c];exact Pd
theorem F9:∀{a b c:I_},cmpL a b<0->cmpL b c<0->cmpL a c<0
 |[],[],_,h,_=>by simp[cmpL]at h
 |[],_::_,[],_,h=>by simp[cmpL]at h
 |[],_::_,_::_,_,_=>by simp[cmpL]
 |_::_,[],_,h,_=>by simp[cmpL]at h
 |_::_,_::_,[],_,h=>by simp[cmpL]at h
 |x::a,y::b,z::c,h1,h2=>by
  rw[cmpL]at h1 h2 ⊢;by_cases f:x<y;(.by_cases d:y<z;(.rw[P_ U];decide);.by_cases e:z<y;(.rw[C_ d,P_ e]at h2;omega);.rw[P_ U];decide);.by_cases g:y<x;(.rw[C_ f,P_ g]at h1;omega);.rw[C_ f,C_ g]at h1;have:x=y:=U;subst this;by_cases d:x<z;(.grind);.by_cases e:z<x;(.grind);.rw[C_ d,C_ e]at h2 ⊢;exact F9 h1 h2
theorem yH{b:I_}:mW a b=0↔a=b:=by unfold mW;by_cases c:l_ a<l_ b;(.grind);.by_cases d:l_ b<l_ a;(.grind);.rw[C_ c,C_ d,KE]
theorem Zp{b:I_}:mW a b<0↔0<mW b a:=by unfold mW;by_cases c:l_ a<l_ b;(.grind);.by_cases d:l_ b<l_ a;(.grind);.rw[C_ c,C_ d,C_ d,C_ c];exact Pd
theorem Sz{b c:I_}(e:mW a b<0)(d:mW b c<0):mW a c<0:=by unfold mW at e d ⊢;by_cases f:l_ a<l_ b;(.grind);.by_cases g:l_ b<l_ a;(.grind);.rw[C_ f,C_ g]at e;by_cases q1:l_ b<l_ c;(.grind);.by_cases q2:l_ c<l_ b;(.grind);.rw[C_ q1,C_ q2]at d;rw[C_ U,C_ U];exact F9 e d
def vk(a b:I_):Prop:=mW a b<0
def CG{b c:I_}(d:vk a b)(e:vk b c):vk a c:=Sz d e
theorem vo(a:I_):¬vk a a:=by unfold vk;rw[yH.2 rfl];grind
theorem KG(a b:I_):vk a b\/a=b\/vk b a:=by unfold vk;rcases hc_ (mW a b) 0 with h|h|h;(.grind);(.exact .inr (.inl (yH.1 h)));.exact .inr (.inr (Zp.2 h))
def KH{b:I_}(h:vk a b):¬vk b a:=λc=>vo a (CG h c)
theorem aci{b:I_}(h:vk a b):l_ a<=l_ b:=by unfold vk mW at h;grind
theorem SA{b:I_}(h:l_ a<l_ b):vk a b:=by unfold vk mW;grind
theorem nL:∀{a b:H_},a.Pairwise vk->b.Pairwise vk->(∀x,x∈a↔x∈b)->a=b
 |[],[],_,_,_=>rfl
 |[],y::b,_,_,h=>by have:=(h y).2 S;cases this
 |x::a,[],_,_,h=>by have:=(h x).1 S;cases this
 |x::a,y::b,ha,hb,h=>by
  have d:=EI.1 ha;have f:=EI.1 hb;(have e:x=y:=by rcases jL.1 ((h x).1 S) with e|i;(.exact e);.rcases jL.1 ((h y).2 S) with e|j;(.grind);.exact absurd (f.1 x i) (KH (d.1 y j)));subst e;congr 1;(refine nL d.2 f.2 λz=>⟨λc=>?_,λc=>?_⟩);(.rcases jL.1 ((h z).1 (by simp[c])) with e|g;(.subst e;exact absurd (d.1 z c) (vo z));grind);.rcases jL.1 ((h z).2 (by simp[c])) with e|g;(.subst e;exact absurd (f.1 z c) (vo z));.exact g
theorem kV:∀{a b:I_},Inc a->Inc b->(∀x,x∈a↔x∈b)->a=b
 |[],[],_,_,_=>rfl
 |[],y::b,_,_,h=>by have:=(h y).2 S;cases this
 |x::a,[],_,_,h=>by have:=(h x).1 S;cases this
 |x::a,y::b,ha,hb,h=>by
  have d:=EI.1 ha;have f:=EI.1 hb;(have e:x=y:=by rcases jL.1 ((h x).1 S) with e|i;(.exact e);.rcases jL.1 ((h y).2 S) with e|j;(.grind);grind);subst e;congr 1;(refine kV d.2 f.2 λz=>⟨λc=>?_,λc=>?_⟩);(.grind);.rcases jL.1 ((h z).2 (by simp[c])) with e|g;(.grind);.exact g
def uw:∀{a:I_},Inc a->a.Nodup
 |[],_=>hd_
 |x::a,h=>by
  have b:=EI.1 h;exact dp_.2 ⟨λc=>by have:=b.1 x c;omega,uw b.2⟩
theorem lZ[DecidableEq α]:∀{a b:List α},a.Nodup->(∀x∈a,x∈b)->l_ a<=l_ b
 |[],_,_,_=>gZ _
 |x::a,b,ha,h=>by
  have f:=dp_.1 ha;have c:=h x S;(have g:∀y∈a,y∈b.erase x:=λy d=>(he_ (λe=>f.1 (by grind))).2 (h y (by simp[d])));have i:=lZ f.2 g;have j:=hf_ c;have k:0<l_ b:=hg_ c;simp only[p8];omega
def AY{b:I_}(c:Inc a)(h:∀x∈a,x∈b):l_ a<=l_ b:=lZ (uw c) h
def uy(u:V_)(o:Option Nat):Prop:=∀a n c,u=.slice (some a) n c->0<n->some a.block≠o
def uy.none(u:V_):uy u none:=λ_ _ _ _ _ h=>by cases h
section
variable{a:Addr}
variable{α:Type}{w w':W_}{enc:α->O_}{k:Nat}{u v:V_}{l:List α}
abbrev Rd(w:W_)(enc:α->List V_)(k:Nat)(v:V_)(l:List α):Prop:=Sl w w enc k v l
def Rd.up(h:Rd w enc k v l)(hb:G w w'):Rd w' enc k v l:=(Sl.below h hb).more hb.size
def Rd.block_lt(h:Rd w enc k u l){c:Nat}(e:u=.slice (some a) n c)(d:0<n):a.block<w:=by obtain⟨A,m,H,_,_,f⟩:=h;rw[e]at H;injection H with g i o;subst g i;obtain⟨b,p,hb,j,_⟩:=f d;injection hb with hb;rwa[hb]
def Rd.kept(h:Rd w enc k u l)(d:w.grownBy w' row)(g:uy u row):Rd w' enc k u l:=by obtain⟨A,c,rfl,H,m,n⟩:=h;refine⟨A,c,rfl,H,m,λe=>?_⟩;obtain⟨b,f,rfl,hb,q⟩:=n e;refine⟨b,f,rfl,qO hb d.size,λi x hi j y o=>?_⟩;have p:some b≠row:=g _ _ _ rfl e;exact(EH (w:=w) (a:=⟨b,f+i*k+j,Option.none⟩) (d.block b hb p)).trans (q i x hi j y o)
def Rd.form(h:Rd w enc k v l):∃A c,v=.slice A (l_ l) c/\l_ l<=c/\c<=m_/\(0<l_ l->∃b a,A=some ⟨b,a,none⟩/\b<w/\Ao w enc k b a l):=h
def nD(a:∀x,l_ (enc x)=k)(o:0<k)(h:w.ownsRow base e k v (l_ l) (l.flatMap enc)):Rd w enc k v l:=by rcases h.2 with⟨rfl,c⟩|⟨g,cap,r,rfl,hb,d,m,f,p,q⟩;(.have:l=[]:=Jg c;subst this;exact Sl.nil _ _ _ _);.refine⟨_,_,rfl,m,f,λ_=>⟨g,0,rfl,(yZ.1 d).1,λi x hi j y b=>?_⟩⟩;(have n:j<k:=by rw[<-a x];exact(jv.1 b).1);have:=h.cells (g:=g) rfl (i*k+j) y (by rwa[nY enc k a l i j x hi n]);rw[add_lit]at this;rwa[show(0+i*k+j)=0+(i*k+j) by omega]
end
section
variable{o:Option Nat}{u:V_}
variable{α:Type}{w w':W_}{base:Nat}{e:T_}{enc:α->O_}{k:Nat}{v:V_}{ps:List (V_×List α)}
def uz(w:W_)(base:Nat)(e:T_)(enc:α->O_)(k:Nat)(v:V_)(ps:List (V_×List α)):Prop:=w.ownsRow base e 1 v (l_ ps) (ps.map (·.1))/\∀p∈ps,Rd w enc k p.1 p.2/\uy p.1 v.ownBlock
def uz.nil(w:W_)(base:Nat)(e:T_)(enc:α->O_)(k:Nat):uz w base e enc k (.slice none 0 0) []:=⟨Ce _ _ _ _,λ_ h=>by cases h⟩
def uz.up(h:uz w base e enc k v ps)(hb:G w w'):uz w' base e enc k v ps:=⟨gJ h.1 hb,λp a=>⟨(h.2 p a).1.up hb,(h.2 p a).2⟩⟩
def uz.alloc(h:uz w base e enc k v ps)(o:Obj):uz (w.alloc o) base e enc k v ps:=h.up ((fu _ _).alloc (gH _) _)
def uz.kept(h:uz w base e enc k v ps)(b:w.grownBy w' row)(c:v.ownBlock=none\/v.ownBlock≠row)(d:∀p∈ps,uy p.1 row):uz w' base e enc k v ps:=⟨h.1.kept b c,λp a=>⟨(h.2 p a).1.kept b (d p a),(h.2 p a).2⟩⟩
def uz.snoc{v':V_}{u:V_}{l:List α}{n:Nat}{xs:O_}(h:uz w base e enc k v ps)(d:n=l_ ps+1)(m:xs=ps.map (·.1)++[u])(o:w'.ownsRow base e 1 v' n xs)(j:w.grownBy w' v.ownBlock)(hb:v'.ownBlock=v.ownBlock\/v'.ownBlock=some w)(f:Rd w enc k u l)(g:uy u v.ownBlock):uz w' base e enc k v' (ps++[(u,l)]):=by(have K:∀(u:V_)(l:List α),Rd w enc k u l->uy u v.ownBlock->Rd w' enc k u l/\uy u v'.ownBlock:=λu l f g=>by refine⟨f.kept j g,λa n c e d=>?_⟩;rcases hb with hb|hb;(.rw[hb];exact g a n c e d);.rw[hb];intro i;injection i with i;have:=f.block_lt e d;omega);refine⟨?_,λp b=>?_⟩;(.subst d m;simpa using o);.rcases iq.1 b with b|b;(.exact K _ _ (h.2 p b).1 (h.2 p b).2);.rw[gW.1 b];exact K _ _ f g
def RdQ(w:W_)(enc:α->O_)(k:Nat)(v:V_)(L:List (List α)):Prop:=∃ps:List (V_×List α),ps.map (·.2)=L/\S1 w (·.1) v ps/\∀p∈ps,Rd w enc k p.1 p.2
def uz.rd(h:uz w base e enc k v ps):RdQ w enc k v (ps.map (·.2)):=⟨ps,rfl,jg h.1,λp a=>(h.2 p a).1⟩
def RdQ.up{L:List (List α)}(h:RdQ w enc k v L)(hb:G w w'):RdQ w' enc k v L:=by obtain⟨ps,e,a,b⟩:=h;exact⟨ps,e,a.up hb,λp c=>(b p c).up hb⟩
def RdQ.form{L:List (List α)}(h:RdQ w enc k v L):∃A c,v=.slice A (l_ L) c/\l_ L<=c/\c<=m_/\ (0<l_ L->∃b a,A=some ⟨b,a,none⟩/\b<w/\∀i x,L[i]?=some x->∃u,N w b (a+i) u/\Rd w enc k u x):=by obtain⟨ps,rfl,f,g⟩:=h;obtain⟨A,c,rfl,H,j,m⟩:=f.form;refine⟨A,c,S,Q H,j,λn=>?_⟩;obtain⟨b,a,e,hb,o⟩:=m (Q n);refine⟨b,a,e,hb,λi x hi=>?_⟩;rw[J8]at hi;obtain⟨p,d,rfl⟩:=Sb.1 hi;exact⟨p.1,o i p d,g p (gV d)⟩
def Ga{size:Nat}(h:w.ownsRow B e size u n xs)(d:∀g,o=some g->g<B):uy u o:=λa m c f j i=>by subst f;rcases h.2 with⟨b,_⟩|⟨g,cap,p,b,hb,_⟩;(.cases b);.injection b with b _ _;injection b with b;subst b;have:=d g i.symm;omega
end
def cmp_eq(x y:Int)(w:W_){c:Int}(h:Lib.compareInt x y=c):z 62 #[x,y] w λe w'=>e=.returned c/\w=w':=(Tryz.cmp_Compare_int x y w).mono λ_ _ ⟨a,hw⟩=>⟨by rw[a,h],hw.symm⟩
def MJ(h:x<y):Lib.compareInt x y= -1:=P_ h
theorem MK(h:y<x):Lib.compareInt x y=1:=by unfold Lib.compareInt;grind
theorem acj(x:Int):Lib.compareInt x x=0:=by unfold Lib.compareInt;grind
def zm(m V:V_)(a b:I_)(w:W_)(j:SI w m a)(l:SI w V b):z 99 #[m,V] w λe w'=>e=.returned (cmpL a b)/\w=w':=by obtain⟨B,c1,rfl,_,o,u⟩:=j.form;obtain⟨C,c2,rfl,_,p,v⟩:=l.form;have G:=j.jH;have t:=l.jH;unfold m_ at o p G t;clear j l o p;go_in;go_wp2;go_loop [11] (λi=>∃k:Nat,k<=l_ a/\k<=l_ b/\i=.int .i64 k/\Hid (cmpL a b=cmpL (a.drop k) (b.drop k))) (λi=>l_ a-(intOf i).toNat);exact⟨0,gZ _,gZ _,rfl,O rfl⟩;obtain⟨k,E,L,rfl,c⟩:=hrel;by_cases q:k<l_ a;(.obtain⟨D,F,rfl,P,r⟩:=u U;obtain⟨x,f⟩:=get_some q;have H:=r k x f;clear r;by_cases A:k<l_ b;(.obtain⟨J,I,rfl,T,s⟩:=v U;obtain⟨y,g⟩:=get_some A;have K:=s k y g;clear s;rcases hc_ x y with h|h|h;(.have d:=(MJ h);go_wp2_with fail;refine(cmp_eq x y _ d).mono ?_;rintro e n ⟨rfl,rfl⟩;go_wp2;go_ret;exact⟨l9 (by rw[c.o,acg f g h]),rfl⟩);(.subst h;have d:=(acj x);go_wp2_with fail;refine(cmp_eq x x _ d).mono ?_;rintro e n ⟨rfl,rfl⟩;go_wp2;go_round;exact⟨k+1,U,U,R,O (by rw[c.o,cmpL_eq f g])⟩;exact M);.have d:=(MK h);go_wp2_with fail;refine(cmp_eq x y _ d).mono ?_;rintro e n ⟨rfl,rfl⟩;go_wp2;go_ret;exact⟨l9 (by rw[c.o,ach f g h]),rfl⟩);.go_wp2;go_ret;exact⟨l9 (by rw[c.o,Sy q U]),rfl⟩);·(obtain rfl:k=l_ a:=by omega);by_cases hl:l_ a<l_ b;(.go_wp2;go_ret;exact⟨l9 (by rw[c.o,Zo hl]),rfl⟩);.go_wp2;go_ret;exact⟨l9 (by rw[c.o,WL U]),rfl⟩
def Pe(i v:V_)(a b:I_)(w:W_)(d:SI w i a)(f:SI w v b):z 132 #[i,v] w λe w'=>e=.returned (mW a b)/\w=w':=by obtain⟨l,c1,rfl⟩:=SI.slice_form d;obtain⟨m,c2,rfl⟩:=SI.slice_form f;have G:=d.jH;have k:=f.jH;unfold m_ at G k;by_cases hl:l_ a=l_ b;(·(have hb:((l_ a:Int) !=(l_ b:Int))=false:=by simp[hl]);have c:mW a b=cmpL a b:=(by unfold mW;rw[C_ U,C_ U]);clear hl;go_in;go_wp2_with fail;refine(zm _ _ a b _ d f).mono ?_;rintro e j ⟨rfl,rfl⟩;go_wp2;go_ret;exact⟨l9 c.symm,rfl⟩);·(have hb:((l_ a:Int) !=(l_ b:Int))=true:=by simp;omega);rcases Nat.lt_or_gt_of_ne hl with h|h;(.have g:Lib.compareInt (l_ a:Int) (l_ b:Int)= -1:=(MJ U);have c:mW a b= -1:=(by unfold mW;rw[P_ h]);go_in;go_wp2_with fail;refine(cmp_eq _ _ _ g).mono ?_;rintro e j ⟨rfl,rfl⟩;go_wp2;go_ret;exact⟨l9 c.symm,rfl⟩);.have g:Lib.compareInt (l_ a:Int) (l_ b:Int)=1:=(MK U);have c:mW a b=1:=(by unfold mW;rw[C_ U,P_ h]);go_in;go_wp2_with fail;refine(cmp_eq _ _ _ g).mono ?_;rintro e j ⟨rfl,rfl⟩;go_wp2;go_ret;exact⟨l9 c.symm,rfl⟩
def ML(v:V_)(l:I_)(w:W_)(h:SI w v l):z 195 #[v] w λe w'=>e=.returned (jS (Valid l))/\w=w':=by obtain⟨r,c1,rfl,_,n,p⟩:=h.form;have J:=h.jH;unfold m_ at n J;clear h n;go_in;go_wp2;go_loop [7] (λi=>∃k:Nat,k<=l_ l/\i=.int .i64 k/\Hid (Valid (l.take k))) (λi=>l_ l-(intOf i).toNat);exact⟨0,gZ _,rfl,O ⟨λ_ h=>(by cases h),List.Pairwise.nil⟩⟩;obtain⟨k,s,rfl,d⟩:=hrel;by_cases q:k<l_ l;(.obtain⟨G,o,rfl,E,c⟩:=p U;have⟨x,b⟩:=get_some q;have t:=c k x b;by_cases u:x<0;(.have a:Hid (jS (Valid l)=false):=O (fF λD=>by have:=(F8 D b).1;omega);clear c;go_wp2;go_ret;exact⟨fP a.o.symm,rfl⟩);·(have F:decide (x<0)=false:=by simp;omega);by_cases A:1023<x;(.have a:Hid (jS (Valid l)=false):=O (fF λD=>by have:=(F8 D b).2.1;omega);clear c;go_wp2;go_ret;exact⟨fP a.o.symm,rfl⟩);·(have H:decide (1023<x)=false:=by simp;omega);by_cases I:0<k;(.have⟨y,f⟩:=get_some (l:=l) (k:=k-1) U;have g:=c (k-1) y f;clear c;obtain⟨j,rfl⟩:∃j,k=j+1:=⟨k-1,U⟩;have q1:decide ((0:Int)<((j+1:Nat):Int))=true:=S;have B:N w G (o+j) (iV y):=g;clear g;have K:0<=(j:Int):=U;have L:(j:Int)<l_ l:=U;by_cases P:x<=y;(.have a:Hid (jS (Valid l)=false):=O (fF λD=>by have:=(F8 D b).2.2 y U f;omega);go_wp2;go_ret;exact⟨fP a.o.symm,rfl⟩);·(have T:decide (x<=y)=false:=by simp;omega);go_wp2;go_round;exact⟨j+1+1,U,R,O (wF b d.o U U (λz _ m=>by have e:=f;rw[m]at e;injection e with e;omega))⟩;exact M);·(have C:decide (0<(k:Int))=false:=by simp;omega);(have q1:decide (0<k)=false:=by simp;omega);clear c;go_wp2;go_round;exact⟨k+1,U,R,O (wF b d.o U U (λz m _=>U))⟩;exact M);·(obtain rfl:k=l_ l:=by omega);have a:Hid (jS (Valid l)=true):=O (fQ (by have:=d.o;rwa[jy]at this));go_wp2;go_ret;exact⟨fP a.o.symm,rfl⟩
inductive oW(E:Nat->List (Nat×Bool))(s:Nat):Nat->Bool->Nat->Prop
 |nil:oW E s s false 0
 |step {v t:Nat} {b c:Bool} {k:Nat}:oW E s v b k->(t,c)∈E v->oW E s t (b||c) (k+1)
inductive RP(R:Nat->Nat->Prop)(A:List Nat)(u:Nat):Nat->Nat->Prop
 |nil:RP R A u u 0
 |snoc {v t:Nat} {k:Nat}:RP R A u v k->R v t->t∈A->RP R A u t (k+1)
section
variable{x:Nat}
variable{R:Nat->Nat->Prop}
def RP.sub{B:List Nat}(h:∀x∈A,x∈B)(a:RP R A u v k):RP R B u v k:=by
 induction a with
 |nil=>exact .nil
 |snoc _ b c d=>exact .snoc d b (h _ c)
theorem RP.cut(c:RP R A x v k):∃a,RP R (A.filter (·≠x)) x v a:=by
 induction c with
 |nil=>exact⟨0,.nil⟩
 | @snoc v t k _ d e b=>
   by_cases h:t=x;(.subst h;exact⟨0,.nil⟩);.obtain⟨a,b⟩:=b;exact⟨a+1,.snoc b d (by grind)⟩
def RP.cons(a:R u x)(b:x∈A)(c:RP R A x v k):RP R A u v (k+1):=by
 induction c with
 |nil=>exact .snoc .nil a b
 |snoc _ a b d=>exact .snoc d a b
def RP.head:∀(k:Nat){v:Nat},RP R A u v (k+1)->∃x,R u x/\x∈A/\RP R A x v k
 |0,v,.snoc a b c=>by cases a;exact⟨v,b,c,.nil⟩
 |k+1,v,.snoc a b c=>by
  have⟨x,g,d,g3⟩:=RP.head k a;exact⟨x,g,d,.snoc g3 b c⟩
def RP.short:∀(n:Nat){A:List Nat}{u v k:Nat},l_ A<=n->RP R A u v k->∃c,c<=n/\RP R A u v c
 |n,_,_,_,0,_,a=>⟨0,gZ _,a⟩
 |0,A,_,_,k+1,d,a=>by
  have⟨x,_,b,_⟩:=RP.head _ a;have:=hg_ b;omega
 |n+1,A,u,v,k+1,d,a=>by
  have⟨x,e,b,a⟩:=RP.head _ a;have⟨c,a⟩:=a.cut;have i:l_ (A.filter (·≠x))<l_ A:=ht_.2 ⟨x,b,S⟩;have⟨f,h,a⟩:=RP.short n U a;exact⟨f+1,U,(a.sub λy g=>(y5.1 g).1).cons e b⟩
def RP.back{s:Nat}(c:t<n)(a:RP R (List.range n) t s k):∃b,b+1<=n/\RP R (List.range n) t s b:=by have⟨b,a⟩:=a.cut;have f:l_ ((List.range n).filter (·≠t))<l_ (List.range n):=ht_.2 ⟨t,Q c,S⟩;rw[List.length_range]at f;have⟨d,g,a⟩:=RP.short (l_ ((List.range n).filter (·≠t))) (gH _) a;exact⟨d,U,a.sub λy e=>(y5.1 e).1⟩
end
structure Way where
 U:Nat
 strict:Bool
 before:Nat
 many:Nat
variable{w:Way}
def Way.code(w:Way):Nat:=2*w.U+if w.strict then 1 else 0
structure Found(E:Nat->List (Nat×Bool))(n s:Nat)(ws:List Way)(seen:Nat->Bool->Bool)(p:Nat)(D:List (Nat×Bool)):Prop where
 root:∃w:Way,ws[0]?=some w/\w.U=s/\w.strict=false/\w.many=0
 walk:∀(i:Nat)(w:Way),ws[i]?=some w->oW E s w.U w.strict w.many/\w.U<n/\seen w.U w.strict=true/\(w.before<i\/i=0)/\w.many<=i
 seen:∀r b,seen r b=true->∃(i:Nat)(w:Way),ws[i]?=some w/\w.U=r/\w.strict=b
 codes:(ws.map Way.code).Nodup
 inc:∀(i j:Nat)(w v:Way),i<=j->ws[i]?=some w->ws[j]?=some v->w.many<=v.many
 near:∀(i:Nat)(w v:Way),ws[p]?=some w->ws[i]?=some v->v.many<=w.many+1
 done:∀(i:Nat)(w:Way),i<p->ws[i]?=some w->∀t c,(t,c)∈E w.U->¬(t=s/\(w.strict||c)=true)/\∃(j:Nat)(v:Way),ws[j]?=some v/\v.U=t/\v.strict=(w.strict||c)/\v.many<=w.many+1
 now:∀w:Way,ws[p]?=some w->∀t c,(t,c)∈D->¬(t=s/\(w.strict||c)=true)/\∃(j:Nat)(v:Way),ws[j]?=some v/\v.U=t/\v.strict=(w.strict||c)/\v.many<=w.many+1
section
variable{x y:α}
variable{E:Nat->List (Nat×Bool)}{n s:Nat}{ws:List Way}{seen:Nat->Bool->Bool}{p:Nat}{D:List (Nat×Bool)}
def Found.begin(a:s<n):Found E n s [⟨s,false,0,0⟩] (λr b=>decide (r=s)&& !b) 0 [] where
 root:=⟨_,rfl,rfl,rfl,rfl⟩
 walk i w hw:=by
  match i,hw with
  |0,hw=>simp at hw;subst hw;exact⟨.nil,a,S,.inr rfl,gH _⟩
 seen r b h:=by simp at h;exact⟨0,_,rfl,h.1.symm,h.2.symm⟩
 codes:=S
 inc i j w v _ hw H:=by
  match i,hw,j,H with
  |0,hw,0,H=>simp at hw H;subst hw H;exact gH _
 near i w v hw H:=by
  match i,H with
  |0,H=>simp at hw H;subst hw H;exact gZ _
 done i w h:=absurd h (eh_ _)
 now w _ t c h:=(by cases h)
def Found.next(h:Found E n s ws seen p D)(hw:ws[p]?=some w)(a:∀x∈E w.U,x∈D):Found E n s ws seen (p+1) [] where
 root:=h.root
 walk:=h.walk
 seen:=h.seen
 codes:=h.codes
 inc:=h.inc
 near i w' v h1 h2:=gY (h.near i w v hw h2) (by have:=h.inc p (p+1) w w' U hw h1;omega)
 done i w' hi hw' t c htc:=by by_cases b:i<p;(.exact h.done i w' b hw' t c htc);·(obtain rfl:i=p:=by omega);obtain rfl:w=w':=Ch (hw.symm.trans hw');exact h.now w hw t c (a _ htc)
 now w _ t c h:=(by cases h)
def Found.skip(h:Found E n s ws seen p D)(hw:ws[p]?=some w)(d:¬(t=s/\(w.strict||c)=true))(e:seen t (w.strict||c)=true):Found E n s ws seen p (D++[(t,c)]) where
 root:=h.root
 walk:=h.walk
 seen:=h.seen
 codes:=h.codes
 inc:=h.inc
 near:=h.near
 done:=h.done
 now w' hw' t' c' a:=by obtain rfl:w=w':=Ch (hw.symm.trans hw');rcases iq.1 a with a|a;(.exact h.now w hw t' c' a);.simp at a;obtain⟨rfl,rfl⟩:=a;have⟨i,v,b,f,g⟩:=h.seen _ _ e;exact⟨d,i,v,b,f,g,h.near i w v hw b⟩
theorem qP(h:(l++[x])[i]?=some y):l[i]?=some y\/(i=l_ l/\y=x):=by grind
def KI(l:List α)(x:α):(l++[x])[l_ l]?=some x:=S
theorem yI(h:l[i]?=some y):(l++[x])[i]?=some y:=by grind
theorem Found.new(h:Found E n s ws seen p D)(hw:ws[p]?=some w)(B:(t,c)∈E w.U)(C:t<n)(F:¬(t=s/\(w.strict||c)=true))(H:seen t (w.strict||c)=false):Found E n s (ws++[⟨t,w.strict||c,p,w.many+1⟩]) (λr b=>seen r b||(decide (r=t)&&decide (b=(w.strict||c)))) p (D++[(t,c)]):=by have A:=(jv.1 hw).1;(have z:∀v,(ws++[⟨t,w.strict||c,p,w.many+1⟩])[p]?=some v->w=v:=λv d=>by grind);refine⟨?_,?_,?_,?_,?_,?_,?_,?_⟩;(.have⟨I,f,g⟩:=h.root;grind);(.intro i v d;rcases qP d with d|⟨rfl,rfl⟩;(.have⟨f,g,k,o⟩:=h.walk i v d;grind);.exact⟨(h.walk p w hw).1.step B,C,S,.inl A,by have:=(h.walk p w hw).2.2.2.2;show w.many+1<=l_ ws;omega⟩);(.intro r b q;simp at q;rcases q with q|⟨rfl,rfl⟩;(.have⟨i,v,f,g⟩:=h.seen r b q;exact⟨i,v,yI f,g⟩);.exact⟨l_ ws,_,KI _ _,rfl,rfl⟩);(.rw[wO];refine WC.2 ⟨h.codes,S,λa K b hb e=>?_⟩;obtain⟨v,d,rfl⟩:=pq.1 K;have L:=gW.1 hb;have⟨i,hi⟩:=WE d;have k:=(h.walk i v hi).2.2.1;rw[L]at e;unfold Way.code at e;grind);(.intro i j v u P d l;rcases qP d with d|⟨rfl,rfl⟩<;>rcases qP l with l|⟨rfl,rfl⟩;(.exact h.inc i j v u P d l);(.exact h.near i w v hw d);(.grind);grind);(.intro i v u d l;obtain rfl:=z v d;rcases qP l with l|⟨rfl,rfl⟩;(.exact h.near i w u hw l);grind);(.intro i v hi d x y m;rcases qP d with d|⟨rfl,rfl⟩;(.have⟨f,j,u,g,k⟩:=h.done i v hi d x y m;exact⟨f,j,u,yI g,k⟩);grind);.intro v d x y m;obtain rfl:=z v d;rcases iq.1 m with m|m;(.have⟨f,j,u,g,k⟩:=h.now w hw x y m;exact⟨f,j,u,yI g,k⟩);.simp at m;obtain⟨rfl,rfl⟩:=m;exact⟨F,l_ ws,_,KI _ _,rfl,rfl,gH _⟩
theorem Pf:∀{a b:List Nat},a.Nodup->(∀x∈a,x∈b)->l_ a<=l_ b
 |[],_,_,_=>gZ _
 |x::a,b,ha,h=>by
  have d:=dp_.1 ha;(have f:∀y∈a,y∈b.erase x:=λy c=>(he_ (λe=>d.1 (by grind))).2 (h y (by simp[c])));have g:=Pf d.2 f;have i:=hf_ (h x S);have j:0<l_ b:=hg_ (h x S);simp only[p8];omega
theorem Found.len(h:Found E n s ws seen p D):l_ ws<=2*n:=by(have:=Pf (b:=List.range (2*n)) h.codes λx a=>by obtain⟨v,H,rfl⟩:=pq.1 a;have⟨i,hi⟩:=WE H;have c:=(h.walk i v hi).2.1;unfold Way.code;grind);grind
theorem Found.none(h:Found E n s ws seen p D)(l:∀w,ws[p]?=some w->most<=w.many+1)(A:p<=l_ ws)(m:k<most):¬oW E s s true k:=by
 have g:∀i w,ws[i]?=some w->w.many+1<most->i<p:=λi w hw B=>by by_cases hi:i<p;(.grind);·(have f:p<l_ ws:=by grind);have e:=l _ (r9 f);have a:=h.inc p i _ w U (r9 f) hw;omega
 have z:∀{v:Nat}{b:Bool}{k:Nat},oW E s v b k->k<most->∃(i:Nat)(w:Way),ws[i]?=some w/\w.U=v/\w.strict=b/\w.many<=k:=by
  intro v b k d
  induction d with
  |nil=>intro _;have⟨w,e,a,o,C⟩:=h.root;exact⟨0,w,e,a,o,U⟩
  | @step v t b c k _ a q=>
    intro m;obtain⟨i,w,G,rfl,rfl,H⟩:=q U;have⟨_,j,u,r,x,y,F⟩:=h.done i w (g i w G U) G t c a;exact⟨j,u,r,x,y,U⟩
 intro d;generalize hb:true=b at d
 cases d with
 |nil=>cases hb
 |step d a=>
  obtain⟨i,w,G,rfl,rfl,H⟩:=z d U;exact(h.done i w (g i w G U) G _ _ a).1 ⟨rfl,hb.symm⟩
end
structure vv(L:List Ax)(V:List St)(E:Nat->List (Nat×Bool)):Prop where
 keys:∀r,r∈V↔∃s b,rA L r s b
 nodup:∀(i j:Nat)(r:St),V[i]?=some r->V[j]?=some r->i=j
 sound:∀(i t:Nat)(c:Bool),(t,c)∈E i->∃r s:St,V[i]?=some r/\V[t]?=some s/\rA L r s c
 full:∀(i t:Nat)(r s:St)(b:Bool),V[i]?=some r->V[t]?=some s->rA L r s b->∃c,(b=true->c=true)/\(t,c)∈E i
section
variable{t:St}
variable{L:List Ax}{V:List St}{E:Nat->List (Nat×Bool)}
def oW.path(h:vv L V E)(a:oW E i j b k):k=0\/∃r s:St,V[i]?=some r/\V[j]?=some s/\mG L r s b:=by
 induction a with
 |nil=>exact .inl rfl
 | @step v t b c k a g l=>
   have⟨r,s,d,e,f⟩:=h.sound _ _ _ g;rcases l with rfl|⟨m,o,G,q,g3⟩;(.cases a;exact .inr ⟨r,s,d,e,Q (mG.one f)⟩);.obtain rfl:o=r:=Ch (q.symm.trans d);exact .inr ⟨m,s,G,e,g3.more f⟩
def WM(h:vv L V E)(a:oW E i i true k):u7 L:=by
 rcases a.path h with rfl|⟨r,s,c,d,e⟩
 .generalize hb:true=b at a
  generalize f:0=k at a
  cases a with
  |nil=>cases hb
  |step _ _=>cases f
 .obtain rfl:r=s:=Ch (c.symm.trans d);exact⟨r,e⟩
theorem mG.strict{v:St}(h:mG L r v b)(hb:b=true):∃s t,rA L s t true/\(r=s\/∃b,mG L r s b)/\(t=v\/∃b,mG L t v b):=by
 induction h with
 |one h=>subst hb;exact⟨_,_,h,.inl rfl,.inl rfl⟩
 | @more s t b c d a e=>
   by_cases H:c=true;(.grind);·(have j:b=true:=by grind);have⟨f,g,G,i,g3⟩:=e j;refine⟨f,g,G,i,.inr ?_⟩;rcases g3 with rfl|⟨k,g3⟩;(.exact⟨_,.one a⟩);.exact⟨_,g3.more a⟩
def mG.trans(e:mG L r s b)(f:mG L s t c):∃d,mG L r t d:=by
 induction f with
 |one h=>exact⟨_,e.more h⟩
 |more _ h a=>obtain⟨d,a⟩:=a;exact⟨_,a.more h⟩
def mG.first(h:mG L r t b):∃s c,rA L r s c:=by
 induction h with
 |one h=>exact⟨_,_,h⟩
 |more _ _ a=>exact a
theorem Gb(h:vv L V E)(a:r∈V):∃i,i<l_ V/\V[i]?=some r:=by have⟨i,hi⟩:=WE a;grind
theorem mG.rp(h:vv L V E)(l:mG L r t b)(hi:V[i]?=some r)(a:V[j]?=some t):∃k,RP (λx y=>∃c,(y,c)∈E x) (List.range (l_ V)) i j k:=by
 induction l generalizing j with
 |one e=>
  have⟨c,_,H⟩:=h.full _ _ _ _ _ hi a e;exact⟨1,.snoc .nil ⟨c,H⟩ (by grind)⟩
 | @more s t b c e f d=>
   have⟨m,_,g⟩:=Gb h ((h.keys s).2 ⟨_,_,f⟩);have⟨k,d⟩:=d g;have⟨c,_,H⟩:=h.full _ _ _ _ _ g a f;exact⟨k+1,.snoc d ⟨c,H⟩ (by grind)⟩
theorem MN(h:vv L V E)(n:u7 L):∃i k,i<l_ V/\k<l_ V+1/\oW E i i true k:=by
 obtain⟨r,q⟩:=n;have⟨s,t,a,e,f⟩:=q.strict rfl;have o:t=s\/∃b,mG L t s b:=by rcases e with rfl|⟨b,e⟩<;>rcases f with rfl|⟨c,f⟩;(.grind);(.grind);(.grind);.exact .inr (f.trans e)
 have u:t∈V:=(h.keys t).2 <| by
  rcases o with rfl|⟨b,g⟩;.exact⟨_,_,a⟩
  .exact g.first
 have⟨i,hi,l⟩:=Gb h ((h.keys s).2 ⟨_,_,a⟩);have⟨j,w,m⟩:=Gb h u;(have hb:∃k,RP (λx y=>∃c,(y,c)∈E x) (List.range (l_ V)) j i k:=by rcases o with rfl|⟨b,g⟩;(.obtain rfl:=h.nodup _ _ _ l m;exact⟨0,.nil⟩);.exact g.rp h m l);obtain⟨k,hb⟩:=hb;have⟨k,I,hb⟩:=hb.back w;have⟨c,C,F⟩:=h.full _ _ _ _ _ l m a
 have H:∀{v k},RP (λx y=>∃c,(y,c)∈E x) (List.range (l_ V)) j v k->oW E i v true (k+1):=by
  intro v k A
  induction A with
  |nil=>have:=(oW.nil (E:=E) (s:=i)).step F;rw[C rfl]at this;simpa using this
  |snoc _ a _ B=>
   obtain⟨d,p⟩:=a;simpa using B.step p
 exact⟨i,k+1,hi,U,H hb⟩
end
def DY(v:V_)(l:I_)(w:W_)(h:SI w v l)(hb:jS (Valid l)=b):z 195 #[v] w λe w'=>e=.returned b/\w=w':=by subst hb;exact ML v l w h
def WO(v:V_)(L:H_)(w:W_)(h:SS w v L):z 129 #[v] w λe w'=>e=.returned (jS (j6 L))/\w=w':=by
 obtain⟨o,c1,rfl,y,j,m⟩:=h.form;unfold m_ at j;clear h;go_in;go_wp2;go_loop [7] (λi=>∃k:Nat,k<=l_ L/\i=.int .i64 k/\Hid (∀l∈L.take k,Valid l)) (λi=>l_ L-(intOf i).toNat);exact⟨0,gZ _,rfl,O λ_ h=>by cases h⟩;obtain⟨k,p,rfl,d⟩:=hrel;by_cases n:k<l_ L
 .obtain⟨B,q,rfl,A,f⟩:=m U
  obtain⟨x,b⟩:=get_some n;obtain⟨u,r,c⟩:=f k x b;obtain⟨s,t,rfl⟩:=SI.slice_form c;clear f
  cases H:jS (Valid x) with
  |true=>
   have a:=O H;clear H;go_wp2_with fail;refine(DY _ x _ c a.o).mono ?_;rintro e g ⟨rfl,rfl⟩;go_wp2;go_round
   exact⟨k+1,U,R,O λl hl=>by
    rw[G_ b]at hl;rcases iq.1 hl with hl|hl;.exact d.o l hl
    .simp at hl;subst hl;exact jE.1 a.o⟩
   exact M
  |false=>
   have a:=O H;clear H;go_wp2_with fail;refine(DY _ x _ c a.o).mono ?_;rintro e g ⟨rfl,rfl⟩;go_wp2;go_ret;exact⟨fP (fF λh=>jF.1 a.o (h x (gV b))).symm,rfl⟩
 ·(obtain rfl:k=l_ L:=by omega);go_wp2;go_ret;exact⟨fP (fQ (by have:=d.o;rwa[jy]at this)).symm,rfl⟩
def valid_eq(v:V_)(L:H_)(w:W_)(h:SS w v L)(hb:jS (j6 L)=b):z 129 #[v] w λe w'=>e=.returned b/\w=w':=by subst hb;exact WO v L w h
def WIn(a b:I_)(k p:Nat):Prop:=(∀x∈a.take k,x∈b)/\∀y∈b.take p,∀x∈a.drop k,y<x
def WIn.step{a b:I_}{k p:Nat}{x y:Int}(h:WIn a b k p)(g:Inc a)(i:a[k]?=some x)(j:b[p]?=some y)(f:y<x):WIn a b k (p+1):=by refine⟨h.1,λz c t d=>?_⟩;rw[G_ j]at c;rcases iq.1 c with c|c;(.exact h.2 z c t d);.simp at c;subst c;have e:(a.drop k).Pairwise (·<·):=g.sublist (fy_ k a);rw[drop_cons i]at d e;rcases jL.1 d with rfl|d;(.exact f);.exact Int.lt_trans f ((EI.1 e).1 t d)
def WIn.next{b:I_}{p:Nat}(h:WIn a b k p)(d:a[k]?=some x)(e:b[p]?=some x):WIn a b (k+1) p:=by refine⟨λz c=>?_,λz c t f=>h.2 z c t ?_⟩;(.rw[G_ d]at c;rcases iq.1 c with c|c;(.exact h.1 z c);.simp at c;subst c;exact gV e);.rw[drop_cons d];exact YZ _ f
def WIn.none{b:I_}{p:Nat}(h:WIn a b k p)(d:a[k]?=some x)(hb:Inc b)(g:∀y,b[p]?=some y->x<y):¬∀z∈a,z∈b:=by intro l;have c:=l x (gV d);rw[<-dw_ p b]at c;rcases iq.1 c with c|c;(.have:=h.2 x c x (by rw[drop_cons d];simp);omega);.rcases Ke p (l_ b) with i|j;(.obtain⟨y,e⟩:=get_some i;have m:=g y e;have f:(b.drop p).Pairwise (·<·):=hb.sublist (fy_ p b);rw[drop_cons e]at c f;rcases jL.1 c with rfl|c;(.omega);.have:=(EI.1 f).1 x c;omega);.rw[hb_ j]at c;cases c
def SB(n V:V_)(a b:I_)(w:W_)(l:SI w n a)(m:SI w V b)(u:Inc a)(hb:Inc b):z 289 #[n,V] w λe w'=>e=.returned (jS (∀x∈a,x∈b))/\w=w':=by obtain⟨K,c1,rfl,_,o,E⟩:=l.form;obtain⟨L,c2,rfl,_,r,F⟩:=m.form;have G:=l.jH;have v:=m.jH;unfold m_ at o r G v;clear l m o r;go_in;go_wp2;go_loop [5,10] (λq i=>∃k p:Nat,k<=l_ a/\p<=l_ b/\i=.int .i64 k/\q=.int .i64 p/\Hid (WIn a b k p)) (λ_ i=>l_ a-(intOf i).toNat);exact⟨0,0,gZ _,gZ _,rfl,rfl,O ⟨λ_ h=>(by cases h),λ_ h=>(by cases h)⟩⟩;obtain⟨k,p,P,g,rfl,rfl,c⟩:=hrel;by_cases H:k<l_ a;(.obtain⟨N,T,rfl,D,s⟩:=E U;obtain⟨x,f⟩:=get_some H;have W:=s k x f;clear s;go_wp2;go_loop [5] (λq=>∃p:Nat,p<=l_ b/\q=.int .i64 p/\Hid (WIn a b k p)) (λq=>l_ b-(intOf q).toNat);exact⟨p,g,rfl,c⟩;clear g c;obtain⟨p,g,rfl,c⟩:=hrel;by_cases I:p<l_ b;(.obtain⟨Q,X,rfl,J,t⟩:=F U;obtain⟨y,j⟩:=get_some I;have Z:=t p y j;clear t;have A:((p:Int)==(l_ b:Int))=false:=Mw.2 U;rcases hc_ y x with h|h|h;(.go_wp2;go_round;exact⟨p+1,U,R,O (c.o.step u f j h)⟩;exact M);(.subst h;have B:(y !=y)=false:=S;have C:decide (y<y)=false:=S;go_wp2;go_round;exact⟨k+1,p,U,g,R,rfl,O (c.o.next f j)⟩;exact M);·(have B:(y !=x)=true:=by simp;omega);(have C:decide (y<x)=false:=by simp;omega);go_wp2;go_ret;exact⟨fP (fF (c.o.none f hb (λz d=>by rw[j]at d;injection d with d;omega))).symm,rfl⟩);·(obtain rfl:p=l_ b:=by omega);have A:((l_ b:Int)==(l_ b:Int))=true:=S;go_wp2;go_ret;exact⟨fP (fF (c.o.none f hb (λz d=>by rw[Wz (gH _)]at d;cases d))).symm,rfl⟩);·(obtain rfl:k=l_ a:=by omega);go_wp2;go_ret;exact⟨fP (fQ (by have:=c.o.1;rwa[jy]at this)).symm,rfl⟩
def Sub(a b:I_):Prop:=∀x∈a,x∈b
def rC(a b:I_):Prop:=l_ a<l_ b/\Sub a b
def MO(g v:V_)(a b:I_)(w:W_)(c:SI w g a)(d:SI w v b)(i:Inc a)(hb:Inc b):z 246 #[g,v] w λe w'=>e=.returned (jS (rC a b))/\w=w':=by obtain⟨k,c1,rfl⟩:=SI.slice_form c;obtain⟨l,c2,rfl⟩:=SI.slice_form d;have G:=c.jH;have j:=d.jH;unfold m_ at G j;by_cases hl:l_ a<l_ b;(.have f:jS (rC a b)=jS (∀x∈a,x∈b):=(yG ⟨λh=>h.2,λh=>⟨hl,h⟩⟩);go_in;go_wp2_with fail;refine(SB _ _ a b _ c d i hb).mono ?_;rintro e m ⟨rfl,rfl⟩;go_wp2;go_ret;exact⟨fP f.symm,rfl⟩);.have f:jS (rC a b)=false:=(fF λh=>hl h.1);(have H:decide (l_ a<l_ b)=false:=by simp;omega);go_in;go_wp2;go_ret;exact⟨fP f.symm,rfl⟩
def DZ(d v:V_)(a b:I_)(w:W_)(f:SI w d a)(g:SI w v b)(h:Inc a)(hb:Inc b)(H:jS (rC a b)=c):z 246 #[d,v] w λe w'=>e=.returned c/\w=w':=by subst H;exact MO d v a b w f g h hb



