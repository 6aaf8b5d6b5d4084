import Derived.Deep.DeepCutAuto
import Derived.Deep.RegionHeld3
import Derived.DeepKeys4
import Derived.RangeFuncBound
import Derived.RangeFuncNested
import Derived.StillTailTactics
import Derived.WalkSpells
import Derived.Test.YtgoapenfbanhaaaGreatDoorJ03
set_option linter.all false
set_option maxRecDepth 1000000
set_option maxHeartbeats 32000000
open List renaming length->l_
open Go.RowKit Go.Proofs.Tryz Go.Sort Go.Shelf Go.Maps
open Go renaming World->W_,Value->V_,maxLen->m_,TypeId->T_,Ending->E_
namespace Go.Proofs
abbrev hx_:=@Go.Lib.itoa_length_le
abbrev hz_:=@Go.Maps.Keyed.of_law
end Go.Proofs
namespace Go.Proofs.YtgoapenfbanhaaaGreatDoor
variable{α:Type}{F:Array Field}{d':Array α}{c:Bool}{L d:H_}{s:I_}{x:Int}{f:Int->Bool}{a:Int->V_}{ps:List (V_×I_)}{ls:List Lit}{B b base cap g i j k m n:Nat}{xs:O_}{o row:Option Nat}{P:Program}{e t:T_}{u:V_}{A C W w w':W_}{enc:α->V_}
def SQ(a b:I_):Prop:=∃x∈a,x∈b
noncomputable def K3:KK prog 3 Int:=adz underlying3
noncomputable def lU (l:I_):Int->Option V_:=λx=>if x∈l then some (.bool true) else none
def om(l:I_)(x:Int):upd (lU l) x (some (.bool true))=lU (l++[x]):=by funext y;unfold upd lU;by_cases h:y=x;(.rw[P_ h,P_ (by simp[h])]);.rw[C_ h];by_cases a:y∈l;(.rw[P_ a,P_ (by simp[a])]);.rw[C_ a,C_ (by simp[h,a])]
def ZA(l:I_)(x:Int):(lU l x).getD (.bool false)=.bool (jS (x∈l)):=by unfold lU;by_cases h:x∈l;(.rw[P_ h,fQ h];rfl);.rw[C_ h,fF h];rfl
def uD{l:I_}(h:h_ w K3 b n (lU l))(a:qD x)(H:jS (x∈l)=c):(Instr.lookup 109 (.map (some b)) (.int .i64 x) false).run prog w=.ok (.bool c) w:=by have:=h.look underlying109 (zeroValue4 w) a;rwa[ZA,H]at this
def WU(v V:V_)(a b:I_)(w:W_)(n:SI w v a)(l:SI w V b)(F:∀x∈a,qD x)(hb:∀x∈b,qD x)(N:l_ a<=1000000):Y 91 #[v,V] w (jS (SQ a b)):=by
 obtain⟨X,c1,rfl,_,f,L⟩:=n.form;obtain⟨Z,c2,rfl,_,B,P⟩:=l.form;have H:=l.jH;unfold m_ at f B H;clear n l f B;have Q:= @run_makeMap prog;go_in;go_wp2;go_loopw [13] (λi wr=>∃k:Nat,k<=l_ a/\i=.int .i64 k/\Hid (h_ wr K3 w k (lU (a.take k)))/\G w wr) (λi _=>l_ a-(intOf i).toNat);exact⟨0,gZ _,rfl,O (by have:=h_.made w K3;exact this.congr λx _=>by unfold lU;rw[C_ S]),(fu _ _).alloc (gH _) _⟩;obtain⟨k,I,rfl,q,z⟩:=hrel;by_cases t:k<l_ a;.obtain⟨D,r,rfl,u,m⟩:=L U;obtain⟨x,c⟩:=get_some t;have K:=(z.cell (p:=a_ D (r+k)) u).trans (m k x c);have g:=O (F x (gV c));have o:=O c;clear m c;go_wp2_with (at_mapUpdate;refine iI _ rfl _ _ _ 109 rfl 4 K3 underlying109 w k _ rfl q.o ?c1 x g.o (.bool true) rfl rfl ?_);(case c1=>unfold m_;omega);intro J f C;rw[om,<-G_ o.o]at f;have T:=O f;have W:=sG z C (λk e=>by cases e;exact gH _);clear f C;go_wp2;go_roundw;exact⟨k+1,U,R,T,W⟩;exact M
 .obtain rfl:k=l_ a:=by omega
  have E:h_ wr K3 w (l_ a) (lU a):=(by have:=q.o;rwa[jy]at this);clear q;go_wp2;go_loop [22] (λi=>∃k:Nat,k<=l_ b/\i=.int .i64 k/\Hid (∀x∈b.take k,x∉a)) (λi=>l_ b-(intOf i).toNat);exact⟨0,gZ _,rfl,O λ_ h=>by cases h⟩;obtain⟨k,I,rfl,A⟩:=hrel;by_cases t:k<l_ b
  .obtain⟨D,r,rfl,u,m⟩:=P U
   obtain⟨x,c⟩:=get_some t;have K:=(z.cell (p:=a_ D (r+k)) u).trans (m k x c);have o:=O c;have g:=hb x (gV c);clear m c
   cases j:jS (x∈a) with
   |true=>
    have hl:=uD E g j;have s:=O j;clear j g;go_wp2;go_ret;exact⟨fP (fQ ⟨x,jE.1 s.o,gV o.o⟩).symm,z⟩
   |false=>
    have hl:=uD E g j;have s:=O j;clear j g;go_wp2;go_round
    exact⟨k+1,U,R,O λy d=>by
     rw[G_ o.o]at d;rcases iq.1 d with d|d;.exact A.o y d
     .simp at d;subst d;exact jF.1 s.o⟩
    exact M
  ·(obtain rfl:k=l_ b:=by omega);go_wp2;go_ret;exact⟨fP (fF (by have:=A.o;rw[jy]at this;rintro⟨x,n,l⟩;exact this x l n)).symm,z⟩
def Pp(d v:V_)(a b:I_)(w:W_)(f:SI w d a)(g:SI w v b)(h:∀x∈a,qD x)(hb:∀x∈b,qD x)(i:l_ a<=1000000)(H:jS (SQ a b)=c):Y 91 #[d,v] w c:=by subst H;exact WU d v a b w f g h hb i
def wfS(L:H_):Prop:=∀l∈L,∀x∈l,qD x
def MV:qD x↔-9223372036854775808<=x/\x<=9223372036854775807:=by unfold qD;simp only[Lit.wf,OB,OC];exact Iff.rfl
def tJ(a: -9223372036854775808<=x)(b:x<=9223372036854775807):qD x:=MV.2 ⟨a,b⟩
def ZB(f V:V_)(L:H_)(s:I_)(w:W_)(g:SS w f L)(j:SI w V s)(A:wfS L)(m:∀x∈s,qD x)(t:l_ s<=1000000):Y 50 #[f,V] w (jS (∀l∈L,SQ s l)):=by
 obtain⟨K,c1,rfl,N,E,F⟩:=g.form;unfold m_ at E;obtain⟨P,c2,rfl⟩:=SI.slice_form j;clear g;go_in;go_wp2;go_loopw [9] (λi wr=>∃k:Nat,k<=l_ L/\i=.int .i64 k/\Hid (∀l∈L.take k,SQ s l)/\G w wr) (λi _=>l_ L-(intOf i).toNat);exact⟨0,gZ _,rfl,O (λ_ h=>by cases h),fu _ _⟩;obtain⟨k,T,rfl,n,z⟩:=hrel;by_cases H:k<l_ L
 .obtain⟨J,B,rfl,I,y⟩:=F U
  obtain⟨x,b⟩:=get_some H;obtain⟨u,o,c⟩:=y k x b;obtain⟨W,X,rfl⟩:=SI.slice_form c;have Z:=(z.cell (p:=a_ J (B+k)) I).trans o;have q:=(S1.up c z);have v:=(S1.up j z);have r:=(A x (gV b));clear c y o
  cases D:jS (SQ s x) with
  |true=>
   have a:=O D;clear D;go_wp2_with fail;refine(Pp _ _ s x _ v q m r t a.o).mono ?_;rintro e C ⟨rfl,d⟩;go_wp2;go_roundw
   exact⟨k+1,U,R,O (λl hl=>by
    rw[G_ b]at hl;rcases iq.1 hl with hl|hl;.exact n.o l hl
    .simp at hl;subst hl;exact jE.1 a.o),b_ z d⟩
   exact M
  |false=>
   have a:=O D;clear D;go_wp2_with fail;refine(Pp _ _ s x _ v q m r t a.o).mono ?_;rintro e C ⟨rfl,d⟩;go_wp2;go_ret;exact⟨fP (fF λh=>jF.1 a.o (h x (gV b))).symm,b_ z d⟩
 ·(obtain rfl:k=l_ L:=by omega);go_wp2;go_ret;exact⟨fP (fQ (by have:=n.o;rwa[jy]at this)).symm,z⟩
def acp(a v:V_)(L:H_)(s:I_)(w:W_)(b:SS w a L)(d:SI w v s)(f:wfS L)(g:∀x∈s,qD x)(h:l_ s<=1000000)(H:jS (∀l∈L,SQ s l)=c):Y 50 #[a,v] w c:=by subst H;exact ZB a v L s w b d f g h
def VE:(prog.info? 370).map (·.size)=some 2:=k_
def info5:(prog.info? 5).map (λi=>(i.zero,i.size,i.bytes))=some (some (.int .u8 0),1,1):=k_
abbrev ZC(B b:Nat)(s:List V_)(w:W_):Prop:=Lib.IsBuilder 370 5 B b s w
abbrev ad6(B b:Nat)(s:List V_)(w:W_):Prop:=Lib.BuilderAt 370 5 B b (.pointer b) s w
def Gg(b:Nat)(w:W_)(c:N w b 0 (.pointer b)):z 342 #[.pointer b] w λe w'=>e=.returned (.tuple #[])/\w=w':=by obtain⟨j,a,_⟩:=Sb.1 VE;go_in;go_wp2;rw[Lib.run_neq_ptr_same w _ underlying368 a];go_wp2;go_end0;exact⟨rfl,rfl⟩
def EO(b:Nat)(w:W_)(g:N w b 0 (.pointer none))(c:w.shape? b=some (370,2))(h:w.frozen? b=false):z 342 #[.pointer b] w λe w'=>e=.returned (.tuple #[])/\w'=w.setCell b (.pointer b):=by obtain⟨j,a,d⟩:=Sb.1 VE;(have f:liesAt prog prog.depth 370 (2 / prog.cellsOf 370) 0 370 1=true:=by kernel_rfl);go_in;go_wp2;rw[Lib.run_to_unsafe w b underlying368 underlying395 a (by rw[d];decide) c (Nat.zero_lt_succ 1)];simp only[Result.andThen];rw[iy_];go_wp2;rw[run_callFunc_extern func350 k_ k_ k_ (e:=Extern.AbiNoEscape.same) k_];rw[Lib.run_noEscape];simp only[Result.andThen];rw[iy_];go_wp2;rw[Lib.run_from_unsafe w b underlying395 underlying368 a c f];simp only[Result.andThen];rw[iy_];go_wp2;go_end0;exact⟨rfl,rfl⟩
def zq(B b:Nat)(a:O_)(w:W_)(h:ZC B b a w):z 342 #[.pointer b] w λe w'=>e=.returned (.tuple #[])/\ad6 B b a w'/\Below B w w':=by rcases h with h|h;(.refine(EO b w h.cell0 h.shape h.frozen0).mono ?_;rintro e w' ⟨rfl,rfl⟩;exact⟨rfl,h.used _,(fu B w).setCell (p:=b) h.1 _⟩);.refine(Gg b w h.cell0).mono ?_;rintro e w' ⟨rfl,rfl⟩;exact⟨rfl,h,fu B _⟩
def EP(B b:Nat)(a:O_)(s:ByteArray)(w:W_)(h:ZC B b a w)(H:l_ a+s.size<=140737488355328)(F:B<=w):z 312 #[.pointer b,.string s] w λe w'=>e=.returned (.tuple #[s.size,.nilIface])/\ad6 B b (a++Lib.strCells s) w'/\Below B w w':=by obtain⟨I,hi,o,q,r⟩:=qw info5;go_in;go_wp2_with fail;refine(zq B b a _ h).mono ?_;rintro e g ⟨rfl,⟨G,v,d,l,t⟩,i⟩;(have J:N g b 0 (.pointer b):=by rw[Lib.cell_of_heap d];rfl);(have c1:N g b 1 v:=by rw[Lib.cell_of_heap d];rfl);go_wp2_with (at_builtin;refine Lib.wpList_append_own_string _ rfl _ _ 343 9 rfl B 5 I underlying343 underlying9 hi o q r _ _ _ rfl l s rfl ?c3 ?c4 ?c5 ?_);(case c3=>unfold m_;omega);(case c4=>omega);(case c5=>have:=i.size;omega);intro v' c m j _;have u:b<g:=(yZ.1 d).1;have f:c.heap[b]?=some (.cells #[.pointer b,v] 370 (0,0)):=(j.block b u (λe=>t e.symm)).trans d;(have y:N c b 0 (.pointer b):=by rw[Lib.cell_of_heap f];rfl);(have A:N c b 1 v:=by rw[Lib.cell_of_heap f];rfl);have C:c.frozen? (a_ b 1)=false:=Lib.frozen_of_heap f 1;have x:=i.grown j (by have:=i.size;omega) (λk n=>(l.lt k n).1);obtain⟨E,cap,rfl⟩:=n_ m;clear j;go_wp2;go_ret2;refine⟨rfl,?_,x.setCell (p:=a_ b 1) G _⟩;exact Lib.BuilderAt.put (T:=370) (e:=5) G f (bs':=a++Lib.strCells s) (by simpa[Lib.strCells_length]using m) D
def JE(B b:Nat)(a:O_)(c:Int)(w:W_)(h:ZC B b a w)(P:l_ a+1<=140737488355328)(L:B<=w):z 315 #[.pointer b,.int .u8 c] w λe w'=>e=.returned .nilIface/\ad6 B b (a++[.int .u8 c]) w'/\Below B w w':=by
 obtain⟨J,hi,t,x,y⟩:=qw info5;go_in;go_wp2_with fail;refine(zq B b a _ h).mono ?_;rintro e d ⟨rfl,⟨G,v,i,q,A⟩,l⟩;(have M:N d b 0 (.pointer b):=by rw[Lib.cell_of_heap i];rfl);(have c1:N d b 1 v:=by rw[Lib.cell_of_heap i];rfl);go_wp2_with (at_builtin;refine wpList_append_own _ rfl _ _ 343 rfl B 5 J (.int .u8 0) 1 1 underlying343 hi t x y rfl D _ _ _ rfl (q.alloc _) d 1 1 [.int .u8 c] rfl rfl ?c1 ?c2 ?c3 ?c4 ?c5 ?_)
 case c1=>
  intro j u f
  match j,f with
  |0,f=>simp at f;subst f;simp[Addr.add]
 (case c2=>intro u o;simp at o;subst o;rfl);(case c3=>unfold m_;omega);(case c4=>omega);(case c5=>have:=l.size;simp;omega);intro v' g r n _;have C:b<d:=(yZ.1 i).1;(have m:g.heap[b]?=some (.cells #[.pointer b,v] 370 (0,0)):=by rwa[n.block b (by simp;omega) (λe=>A e.symm),Lib.alloc_old d _ b C]);(have F:N g b 0 (.pointer b):=by rw[Lib.cell_of_heap m];rfl);(have H:N g b 1 v:=by rw[Lib.cell_of_heap m];rfl);have I:g.frozen? (a_ b 1)=false:=Lib.frozen_of_heap m 1;have E:=(l.alloc (by have:=l.size;omega) _).grown n (by have:=l.size;simp;omega) (λk s=>(q.lt k s).1);obtain⟨K,cap,rfl⟩:=n_ r;clear n;go_wp2;go_ret;refine⟨rfl,?_,E.setCell (p:=a_ b 1) G _⟩;exact Lib.BuilderAt.put (T:=370) (e:=5) G m (bs':=a++[.int .u8 c]) (Q r) D
def Tab(w:W_):Prop:=Lib.TabIs prog w "internal/strconv.uint64pow10" .u64 Lib.pow10Tab
def ahV:∃g,prog.globalNamed "internal/strconv.uint64pow10"=some g:=⟨4,k_⟩
def Tab.keep(h:Tab w)(b:∀g,prog.globalNamed "internal/strconv.uint64pow10"=some g->g<w->w'.heap[g]?=w.heap[g]?):Tab w':=by obtain⟨g,a⟩:=ahV;unfold Tab Lib.TabIs World.var? at h ⊢;rw[a]at h ⊢;simp only[Option.bind_some]at h ⊢;rcases Ke g w with c|d;(.rwa[b g a c]);.rw[Array.getElem?_eq_none d]at h;cases h
def Tab.up(h:Tab w)(hb:G w w'):Tab w':=h.keep λg _ a=>hb.block g a
def below_grow(w:W_)(q:Nat)(os:Array Obj):G w (grow (w.drewN q) os):=
 ⟨rfl,rfl,rfl,by simp[grow,World.drewN],λi hi=>by
  show(w.heap++os)[i]?=_
  rw[df_ hi]⟩
def ZC.up{e:O_}(h:ZC B b e w)(hb:G w w'):ZC B b e w':=by rcases h with⟨H,v,a,d,c⟩|⟨H,v,a,d,c⟩;(.exact .inl ⟨H,v,(hb.block b (yZ.1 a).1).trans a,gJ d hb,c⟩);.exact .inr ⟨H,v,(hb.block b (yZ.1 a).1).trans a,gJ d hb,c⟩
def nW(l:I_):List UInt8:=l.flatMap λn=>Lib.itoa n++[44]
def WV(l:I_)(x:Int):nW (l++[x])=nW l++(Lib.itoa x++[44]):=by simp[nW]
def Gh:∀(l:I_),(∀x∈l,qD x)->l_ (nW l)<=22*l_ l
 |[],_=>by simp[nW]
 |x::l,h=>by
  (have b:=Gh l λy c=>h y (by simp[c]));have a:=MV.1 (h x S);have d:=hx_ x a.1 a.2;unfold nW at b ⊢;rw[OD,ny,ny,p8];simp only[p8,Mv];omega
def byteCells_append(a b:List UInt8):Lib.byteCells (a++b)=Lib.byteCells a++Lib.byteCells b:=by simp[Lib.byteCells]
def acr(v:V_)(l:I_)(w:W_)(h:SI w v l)(hw:∀x∈l,qD x)(hl:l_ l<=1000000)(I:Tab w):Y 288 #[v] w (nW l):=by obtain⟨V,c1,rfl,_,r,W⟩:=h.form;unfold m_ at r;clear h r;go_in;go_wp2;go_loopw [8] (λi wr=>∃k:Nat,k<=l_ l/\i=.int .i64 k/\Hid (ZC w w (Lib.byteCells (nW (l.take k))) wr)/\G w wr) (λi _=>l_ l-(intOf i).toNat);exact⟨0,gZ _,rfl,O (Lib.fresh_isBuilder _ _ w),(fu _ _).alloc (gH _) _⟩;obtain⟨k,ac,rfl,a,z⟩:=hrel;by_cases X:k<l_ l;(.obtain⟨S,K,rfl,g,s⟩:=W U;obtain⟨x,b⟩:=get_some X;have L:=(z.cell (p:=a_ S (K+k)) g).trans (s k x b);have c:=MV.1 (hw x (gV b));(have H:=Gh (l.take k) λy P=>hw y (R4 P));have hi:=hx_ x c.1 c.2;rw[wE]at H;have T:=(show nW (l.take (k+1))=nW (l.take k)++(Lib.itoa x++[44]) by rw[G_ b,WV]);clear s b;generalize nW (l.take k)=J at *;generalize N:Lib.itoa x=D at *;have ad:l_ J<=22*k:=U;clear H;go_wp2_with fail;refine(Tryz.strconv_Itoa x c.1 c.2 _ (I.up z)).mono ?_;rintro e j ⟨rfl,q,os,m⟩;rw[N];(have f:G wr j:=by rw[m];exact below_grow wr q os);clear m;have t:=(ZC.up a.o f);have u:=b_ z f;clear a f L;go_wp2_with fail;refine(EP w w _ ⟨D.toArray⟩ _ t (by rw[Lib.byteCells_length];show l_ J+D.toArray.size<=_;simp;omega) u.size).mono ?_;rintro e n ⟨rfl,A,B⟩;have C:G w n:=u.trans B;have d:ZC w w (Lib.byteCells (J++D)) n:=(.inr (by rwa[byteCells_append]));clear A B t;go_wp2_with fail;refine(JE w w _ 44 _ d (by rw[Lib.byteCells_length,ny];omega) C.size).mono ?_;rintro e o ⟨rfl,E,F⟩;have Z:G w o:=C.trans F;have Q:Hid (ZC w w (Lib.byteCells (nW (l.take (k+1)))) o):=O (.inr (by rwa[T,<-Kg,byteCells_append (J++D)]));clear E F d;go_wp2;go_roundw;exact⟨k+1,U,R,Q,Z⟩;exact M);·(obtain rfl:k=l_ l:=by omega);have d:ZC w w (Lib.byteCells (nW l)) wr:=(by have:=a.o;rwa[jy]at this);clear a;go_wp2_with fail;refine(Tryz.Builder_String_any w w (nW l) _ d z.size).mono ?_;rintro e j ⟨rfl,g⟩;go_wp2;go_ret;exact⟨rfl,z.trans g⟩
def KM(c:UInt8):Prop:=48<=c.toNat/\c.toNat<=57
def CU(u:Nat):∀c∈Lib.decDigits u,KM c:=by
 induction u using Nat.strongRecOn with
 |ind u a=>
  intro c hc;rw[Lib.decDigits]at hc;by_cases h:u<10;(.rw[dif_pos h]at hc;obtain rfl:=gW.1 hc;unfold KM;rw[iz_];omega);.rw[dif_neg h]at hc;rcases iq.1 hc with hc|hc;(.exact a (u / 10) U c hc);.obtain rfl:=gW.1 hc;unfold KM;rw[iz_];omega
def Gi(l:List UInt8):Nat:=l.foldl (λn c=>n*10+(c.toNat-48)) 0
def vB(u:Nat):Gi (Lib.decDigits u)=u:=by
 induction u using Nat.strongRecOn with
 |ind u a=>
  rw[Lib.decDigits];by_cases h:u<10;(.rw[dif_pos h];simp only[Gi,fe_,List.foldl_nil];rw[iz_];omega);.rw[dif_neg h];unfold Gi at a ⊢;rw[ac_,a (u / 10) U];simp only[fe_,List.foldl_nil];rw[iz_];omega
def KO(n:Int):∀c∈Lib.itoa n,c≠44:=by intro c H e;subst e;unfold Lib.itoa at H;split at H;(.rcases jL.1 H with h|h;(.cases h);.have:=CU _ _ h;unfold KM at this;simp at this);.have:=CU _ _ H;unfold KM at this;simp at this
def ZE{a b:Int}(h:Lib.itoa a=Lib.itoa b):a=b:=by(have H:∀u:Nat,∀r,Lib.decDigits u≠45::r:=λu r e=>by have:=CU u 45 (by rw[e];simp);unfold KM at this;simp at this);unfold Lib.itoa at h;by_cases c:a<0<;>by_cases d:b<0;(.rw[P_ c,P_ d]at h;injection h with _ h;have:=iM Gi h;rw[vB,vB]at this;omega);(.rw[P_ c,C_ d]at h;exact absurd h.symm (H _ _));(.rw[C_ c,P_ d]at h;exact absurd h (H _ _));.rw[C_ c,C_ d]at h;have:=iM Gi h;rw[vB,vB]at this;omega
def D7:∀{a b r s:List UInt8},(∀c∈a,c≠44)->(∀c∈b,c≠44)->a++44::r=b++44::s->a=b/\r=s
 |[],[],_,_,_,_,h=>by injection h with _ h;exact⟨rfl,h⟩
 |[],c::b,_,_,_,hb,h=>by injection h with h _;exact absurd h.symm (hb c S)
 |c::a,[],_,_,ha,_,h=>by injection h with h _;exact absurd h (ha c S)
 |c::a,d::b,r,s,ha,hb,h=>by
  injection h with f g;have⟨i,j⟩:=D7 (a:=a) (b:=b) (λx e=>ha x (by simp[e])) (λx e=>hb x (by simp[e])) g;exact⟨by rw[f,i],j⟩
def Pq:∀{a b:I_},nW a=nW b->a=b
 |[],[],_=>rfl
 |[],y::b,h=>by simp[nW]at h
 |x::a,[],h=>by simp[nW]at h
 |x::a,y::b,h=>by
  (have e:∀(z:Int)(c:I_),nW (z::c)=Lib.itoa z++44::nW c:=λz c=>by simp[nW]);rw[e,e]at h;have⟨d,f⟩:=D7 (KO x) (KO y) h;rw[ZE d,Pq f]
def Apart(u:V_)(o:Option Nat):Prop:=∀a n c,u=.slice (some a) n c->0<n->some a.block≠o
theorem SI.block_lt{l:I_}(h:SI w u l){a:Addr}{c:Nat}(e:u=.slice (some a) n c)(d:0<n):a.block<w:=by obtain⟨A,k,H,_,_,f⟩:=h;grind
def SI.kept{l:I_}(h:SI w u l)(d:w.grownBy w' row)(g:Apart u row):SI w' u l:=by obtain⟨A,c,rfl,H,j,k⟩:=h.form;(refine S1.mk H j λe=>?_);obtain⟨b,f,rfl,hb,n⟩:=k e;refine⟨b,f,rfl,qO hb d.size,λi x hi=>?_⟩;have m:some b≠row:=g _ _ _ rfl e;exact(EH (w:=w) (a:=⟨b,f+i,Option.none⟩) (d.block b hb m)).trans (n i x hi)
def kD(w:W_)(base:Nat)(v:V_)(ps:List (V_×I_)):Prop:=w.ownsRow base 31 1 v (l_ ps) (ps.map (·.1))/\∀p∈ps,SI w p.1 p.2/\Apart p.1 v.ownBlock
section
variable{a:Nat}
variable{w w':W_}{base:Nat}{v:V_}{ps:List (V_×I_)}
def kD.nil(w:W_)(base:Nat):kD w base () []:=⟨Ce _ _ _ _,λ_ h=>by cases h⟩
def kD.sp(h:kD w base v ps):SP w v ps:=⟨jg h.1,λp a=>(h.2 p a).1⟩
def kD.ss(h:kD w base v ps):SS w v (ps.map (·.2)):=⟨ps,rfl,h.sp⟩
def kD.up(h:kD w base v ps)(hb:G w w'):kD w' base v ps:=⟨gJ h.1 hb,λp a=>⟨(h.2 p a).1.up hb,(h.2 p a).2⟩⟩
def kD.alloc(h:kD w base v ps)(o:Obj):kD (w.alloc o) base v ps:=h.up ((fu _ _).alloc (gH _) _)
def kD.kept(h:kD w base v ps)(b:w.grownBy w' row)(c:v.ownBlock=none\/v.ownBlock≠row)(d:∀p∈ps,Apart p.1 row):kD w' base v ps:=⟨h.1.kept b c,λp a=>⟨(h.2 p a).1.kept b (d p a),(h.2 p a).2⟩⟩
theorem kD.snoc{v':V_}{u:V_}{l:I_}{n:Nat}{xs:O_}(h:kD w base v ps)(d:n=l_ ps+1)(k:xs=ps.map (·.1)++[u])(m:w'.ownsRow base 31 1 v' n xs)(j:w.grownBy w' v.ownBlock)(hb:v'.ownBlock=v.ownBlock\/v'.ownBlock=some w)(f:SI w u l)(g:Apart u v.ownBlock):kD w' base v' (ps++[(u,l)]):=by(have K:∀(u:V_)(l:I_),SI w u l->Apart u v.ownBlock->SI w' u l/\Apart u v'.ownBlock:=λu l f g=>by refine⟨f.kept j g,λa n c e d=>?_⟩;rcases hb with hb|hb;(.rw[hb];exact g a n c e d);.rw[hb];intro i;injection i with i;have:=f.block_lt e d;omega);refine⟨?_,λp b=>?_⟩;(.grind);.rcases iq.1 b with b|b;(.exact K _ _ (h.2 p b).1 (h.2 p b).2);grind
def kD.lower(h:kD w base v ps)(hb:a<=base):kD w a v ps:=⟨jD h.1 hb,h.2⟩
end
theorem l5[Inhabited α]{l:List α}(h:w.ownsRow base e 1 (.slice g n cap) (l_ l) (l.map enc)):Holds enc w g 0 l.toArray:=by intro j d;have b:j<l_ l:=Q d;obtain⟨_,a⟩:=h;rcases a with⟨a,_⟩|⟨f,q,k,H,hb,c,m,o,p,i⟩;(.cases a);·(obtain⟨rfl⟩:g=f:=by grind);constructor;(.rw[Jc,dc_ w g j k e (0,0) c];have:=iM (λL:O_=>L[j]?) i;grind);.simp[World.frozen?,c]
theorem mX[Inhabited α]{l:List α}(H:d'.size=l_ l)(h:w.ownsRow base e 1 (.slice g n cap) (l_ l) (l.map enc))(m:Nat)(os:Array Obj):(sortWorld enc w g 0 m d' os).ownsRow base e 1 (.slice g n cap) (l_ d'.toList) (d'.toList.map enc)/\w.grownBy (sortWorld enc w g 0 m d' os) (some g):=by obtain⟨x,b⟩:=h;rcases b with⟨b,_⟩|⟨f,s,d,v,hb,c,j,k,o,y⟩;(.cases b);·(obtain⟨rfl⟩:g=f:=by grind);(obtain⟨rfl⟩:cap=s:=by grind);(obtain⟨rfl⟩:n=l_ l:=by grind);have q:g<w:=(yZ.1 c).1;(have u:(sortWorld enc w g 0 m d' os).heap[g]?=some (.cells (putCells enc 0 d' d) e (0,0)):=by unfold sortWorld;rw[hi_ _ _ (by simp[putRow,mapBlock];grind)];show((w.heap.modify g (onCells (putCells enc 0 d')))[g]?)=_;simp[gr_,c,onCells]);refine⟨⟨S,.inr ⟨g,cap,_,by simp[H],hb,u,by simp[H];exact j,k,by simp[putCells,o],?_⟩⟩,rfl,rfl,rfl,?_,?_⟩;(.apply cf_;intro t;rw[YW];split;(.rename_i a;simp only[gy_,Nat.mul_one]at a;have p:t<d.size:=U;simp[putCells,p,a,R5]);grind);(.simp[sortWorld,putRow,mapBlock,grow]);.intro i hi r;unfold sortWorld;rw[hi_ _ _ (by simp[putRow,mapBlock];grind)];show((w.heap.modify g (onCells (putCells enc 0 d')))[i]?)=_;grind
abbrev El(w:W_)(g:Nat):Type:={p:V_×List Int // SI w p.1 p.2/\Apart p.1 (some g)}
instance El.inh(w:W_)(g:Nat):Inhabited (El w g):=⟨⟨(.slice none 0 0,[]),S1.nil _ _,λ_ _ _ h=>by injection h with h;cases h⟩⟩
def El.v(p:El w g):V_:=p.1.1
def El.l(p:El w g):I_:=p.1.2
def El.one(w:W_)(g:Nat):OneCell (El.v (w:=w) (g:=g)):=λp=>by obtain⟨A,c,h⟩:=SI.slice_form p.2.1;show(p.1.1).oneCell'=true;rw[h];rfl
theorem MW(x y:El w g):(ltOf (λp q:El w g=>mW p.l q.l) x y=true↔vk x.l y.l)/\(ltOf (λp q:El w g=>mW p.l q.l) x y=false↔¬vk x.l y.l):=by unfold ltOf vk;grind
theorem El.swo(w:W_)(g:Nat):SWO (ltOf λp q:El w g=>mW p.l q.l):=by refine⟨λx=>(MW x x).2.2 (vo _),λx y z b c=>(MW x z).1.2 (CG ((MW x y).1.1 b) ((MW y z).1.1 c)),λx y z b c=>?_⟩;have f:=(MW x y).2.1 b;have e:=(MW y z).2.1 c;(refine(MW x z).2.2 λd=>?_);rcases KG x.l y.l with a|a|a;(.exact f a);(.grind);.exact e (CG a d)
def SV:∀args w,(callFunc 132 args).run prog w=.ok (.enter 132 args) w:=enters_of func132 k_ rfl
theorem SI.CW[Inhabited α]{l:I_}(h:SI w u l)(b:Apart u (some g))(m:Nat)(a:Array α)(os:Array Obj):SI (sortWorld enc w g 0 m a os) u l:=by refine h.kept (row:=some g) ⟨rfl,rfl,rfl,by simp[sortWorld,putRow,mapBlock,grow],λi hi c=>?_⟩ b;unfold sortWorld;rw[hi_ _ _ (by simp[putRow,mapBlock];grind)];show((w.heap.modify g (onCells (putCells enc 0 a)))[i]?)=_;grind
def WW(w:W_)(g size:Nat):CmpLays1 prog 132 #[] (El.v (w:=w) (g:=g)) (λp q=>mW p.l q.l) g 0 size w:=by intro m os a _ x y;refine(Pe x.v y.v x.l y.l _ (x.2.1.CW x.2.2 m a os) (y.2.1.CW y.2.2 m a os)).mono ?_;rintro e w' ⟨rfl,rfl⟩;exact⟨rfl,0,#[],by simp[grow];rfl⟩
def Pt(w:W_)(base:Nat)(v:V_)(ps:List (V_×I_))(e:E_)(w':W_):Prop:=e=.returned (.tuple #[])/\∃p,p.Perm ps/\(p.map (·.2)).Pairwise (λa b=>¬vk b a)/\kD w' base v p/\w.grownBy w' v.ownBlock
theorem Gj(base:Nat)(v:V_)(ps:List (V_×I_))(w:W_)(h:kD w base v ps)(Z:l_ ps<=1000000):z 56 #[v,.func (.func 132) #[] #[]] w (Pt w base v ps):=by rcases h.1.2 with⟨rfl,m⟩|⟨g,cap,X,rfl,hb,o,L,P,T,W⟩;(.have:ps=[]:=Jg m;subst this;refine(Tryz.oJ (α:=Nat) none 0 (.func (.func 132) #[] #[]) w).mono ?_;rintro e w' ⟨rfl,rfl⟩;exact⟨rfl,[],hl_ _,List.Pairwise.nil,kD.nil _ _,R8 _ _⟩);.have y:g<w:=(yZ.1 o).1;(have⟨d,l⟩:∃d:List (El w g),d.map (·.1)=ps:=by refine⟨ps.attach.map λp=>⟨p.1,(h.2 p.1 p.2).1,(h.2 p.1 p.2).2⟩,?_⟩;rw[Vr];exact hm_ ps);(have a:l_ d=l_ ps:=by rw[<-l,qm]);(have A:d.map El.v=ps.map (·.1):=by rw[<-l,Vr];rfl);(have f:w.ownsRow base 31 1 (.slice g (l_ ps) cap) (l_ d) (d.map El.v):=by rw[a,A];exact h.1);have k:=Tryz.sJ (El.v (w:=w) (g:=g)) (El.one w g) (λp q=>mW p.l q.l) (El.swo w g) 132 #[] g 0 cap d.toArray w SV (WW w g _) (l5 f) y (by simp;omega);rw[show d.toArray.size=l_ ps by simp[a]]at k;refine k.mono ?_;rintro e w' ⟨rfl,d',n,os,b,B,rfl⟩;have c:d'.size=l_ d:=Q b.1;have⟨r,C⟩:=mX (d':=d') c f n os;(have K:d'.toList.Perm d:=by have:=b.2.2;have s:List.take (l_ ps) d'.toList=d'.toList:=J9 (by simp[c,a]);have t:List.take (l_ ps) d=d:=J9 U;simpa[s,t]using this);refine⟨rfl,d'.toList.map (·.1),?_,?_,⟨?_,?_⟩,C⟩;(.grind);(.rw[Vr,by_,R7];intro i j hi u E;have F:i<d'.size:=Q hi;have H:j<d'.size:=Q u;have:=B i j (gZ _) E U;rw[R5 d' i F,R5 d' j H]at this;have x:=(MW _ _).2.1 this;rwa[ho_,ho_]);(.rwa[qm,Vr]);.intro p I;obtain⟨q,_,rfl⟩:=pq.1 I;exact⟨q.2.1.CW q.2.2 n d' os,q.2.2⟩
def laidOut:laidOutB prog=true:=k_
def kl9(m:Nat)(s:St)(h:l_ s<=m_):prog.keyLits (m+1) 9 [d_ s]=some [.string s]:=by unfold Program.keyLits;rw[underlying9];simp only[];rw[P_ (by show s.toArray.size<=m_;rwa[bc_])]
def kl3(m:Nat)(x:Int)(h:(Lit.int .i64 x).wf=true):prog.keyLits (m+1) 3 [.int .i64 x]=some [.int .i64 x]:=by unfold Program.keyLits;rw[underlying3];simp only[];rw[P_ (by first|exact⟨rfl,h⟩|exact⟨trivial,h⟩|simpa using h)]
def ad7:prog.cellsOf 9=1:=k_
def cells3:prog.cellsOf 3=1:=k_
def ahW{F:List Field}{a:O_}(h:l_ F=l_ ls)(b:∀(i:Nat) f l,F[i]?=some f->ls[i]?=some l->P.keyLits m f.type ((a.drop f.offset).take (P.cellsOf f.type))=some [l]):(F.mapM λf=>P.keyLits m f.type ((a.drop f.offset).take (P.cellsOf f.type)))=some (ls.map λl=>[l]):=by
 induction F generalizing ls with
 |nil=>cases ls with
  |nil=>rfl
  |cons _ _=>cases h
 |cons f F c=>cases ls with
  |nil=>cases h
  |cons l ls=>
   rw[List.mapM_cons,b 0 f l rfl rfl,c (Q h) λi g k d hl=>b (i+1) g k (Q d) (Q hl)];rfl
def ZF(ls:List Lit):(ls.map λl=>[l]).flatten=ls:=by
 induction ls with
 |nil=>rfl
 |cons a l b=>simp[b]
def FOk:Nat->List Field->O_->List Lit->Prop
 |_,[],[],[]=>True
 |i,f::fs,v::vs,x::ls=>f.offset=i/\((f.type=9/\∃s:St,v=d_ s/\x=.string s/\l_ s<=m_)\/(f.type=3/\∃n,v=.int .i64 n/\x=.int .i64 n/\x.wf=true))/\FOk (i+1) fs vs ls
 |_,_,_,_=>False
def FOk.len:∀{i:Nat}{f:List Field}{v:O_}{ls:List Lit},FOk i f v ls->l_ f=l_ ls/\l_ v=l_ ls
 |_,[],[],[],_=>⟨rfl,rfl⟩
 |_,_::_,_::_,_::_,h=>by have:=h.2.2.len;simp[this]
def FOk.at:∀{n:Nat}{F:List Field}{V:O_}{ls:List Lit},FOk n F V ls->∀(m i:Nat) f l,F[i]?=some f->ls[i]?=some l->f.offset=n+i/\prog.keyLits (m+1) f.type ((V.drop i).take (prog.cellsOf f.type))=some [l]
 |n,f::F,v::V,x::ls,h,m,i,g,l,hg,hl=>by
  match i with
  |0=>
   simp at hg hl;subst hg hl;refine⟨h.1,?_⟩;rcases h.2.1 with⟨e,s,rfl,rfl,a⟩|⟨e,s,rfl,rfl,a⟩;(.rw[e,ad7];exact kl9 m s a);.rw[e,cells3];exact kl3 m s a
  |i+1=>
   have:=h.2.2.at m i g l (Q hg) (Q hl);exact⟨U,Q this.2⟩
structure TK(t:T_)(n:Nat):Prop where
 row:t<prog.types.size
 kt:prog.keyTypeAt 2 t=true
 ktt:prog.keyType t=true
 wide:(match prog.underlying t with|some (.array _ _)|some (.struct _)=>true|_=>false)=true
 cells:prog.cellsOf t=n
def TK.law(h:TK t n):WideMaps.KeyLaw prog t:=by obtain⟨a,b,_,c,_⟩:=h;have d:=laidOut;generalize prog=P at *;exact deep_law_laid d (m:=2) U a b c
def TK.key{v:A_}(h:TK t n)(a:prog.underlying t=some (.struct F))(b:l_ ls=n)(hb:F.all (λf=>f.name != "_")=true)(c:FOk 0 F.toList v.toList ls):keyOf prog t (.agg v)=some (.string (keyBytes ls)):=by obtain⟨p,_,k,_,q⟩:=h;have o:=c.at;obtain⟨e,g⟩:=c.len;have d:v.size=l_ ls:=Q_ g;generalize prog=Q at *;obtain⟨m,j⟩:∃m,Q.types.size=m+1:=⟨Q.types.size-1,(Nat.sub_add_cancel (Nat.zero_lt_of_lt p)).symm⟩;(have H:(Value.agg v).formed Q t=true:=by unfold Value.formed;rw[a];simp[q,d,b]);(have hl:Q.keyLits (m+1+1) t v.toList=some ls:=by unfold Program.keyLits;rw[a];simp only[];rw[P_ ⟨by simp[q,d,b],Q_ hb⟩];rw[ahW (ls:=ls) e λi f l H hl=>?_];(.rw[hy_,ZF]);.have:=o m i f l H hl;rw[this.1,Jc];exact this.2);unfold keyOf;rw[a];simp only[];rw[P_ (by rw[k,H];rfl),j,Value.cells,hl];rfl
def TK.inj{t:T_}{n:Nat}{a v:A_}{b c:List Lit}(h:TK t n)(d:keyOf prog t (.agg a)=some (.string (keyBytes b)))(f:keyOf prog t (.agg v)=some (.string (keyBytes c)))(e:Lit.string (keyBytes b)=Lit.string (keyBytes c)):a=v:=by have g:=(hz_ h.law).inj (d.trans (iM some e)) f;injection g
abbrev vP(p:Pc):Array V_:= #[p.K,d_ p.A,d_ p.B,d_ p.C,d_ p.R,d_ p.S,d_ p.T,p.lo,p.hi,p.fM]
def lP(p:Pc):List Lit:=[.int .i64 p.K,.string p.A,.string p.B,.string p.C,.string p.R,.string p.S,.string p.T,.int .i64 p.lo,.int .i64 p.hi,.int .i64 p.fM]
def Y2(p:Pc):Prop:=(Lit.int .i64 p.K).wf=true/\l_ p.A<=m_/\l_ p.B<=m_/\l_ p.C<=m_/\l_ p.R<=m_/\l_ p.S<=m_/\l_ p.T<=m_/\(Lit.int .i64 p.lo).wf=true/\(Lit.int .i64 p.hi).wf=true/\(Lit.int .i64 p.fM).wf=true
def tP:TK 150 10:=⟨Cg k_,k_,k_,k_,k_⟩
def ahX:WideMaps.KeyLaw prog 150:=tP.law
def SX(p:Pc)(a:Y2 p):keyOf prog 150 (.agg (vP p))=some (.string (keyBytes (lP p))):=tP.key underlying150 rfl S ⟨rfl,.inr ⟨rfl,_,rfl,rfl,a.1⟩,rfl,.inl ⟨rfl,_,rfl,rfl,a.2.1⟩,rfl,.inl ⟨rfl,_,rfl,rfl,a.2.2.1⟩,rfl,.inl ⟨rfl,_,rfl,rfl,a.2.2.2.1⟩,rfl,.inl ⟨rfl,_,rfl,rfl,a.2.2.2.2.1⟩,rfl,.inl ⟨rfl,_,rfl,rfl,a.2.2.2.2.2.1⟩,rfl,.inl ⟨rfl,_,rfl,rfl,a.2.2.2.2.2.2.1⟩,rfl,.inr ⟨rfl,_,rfl,rfl,a.2.2.2.2.2.2.2.1⟩,rfl,.inr ⟨rfl,_,rfl,rfl,a.2.2.2.2.2.2.2.2.1⟩,rfl,.inr ⟨rfl,_,rfl,rfl,a.2.2.2.2.2.2.2.2.2⟩,trivial⟩
noncomputable def KP:KK prog 150 Pc:=⟨λp=> .agg (vP p),λp=> .string (keyBytes (lP p)),Y2,hz_ ahX,SX,λx y H a e=>by
 have h:=tP.inj (SX x H) (SX y a) e;cases x;cases y;simp at h
 simp[h]⟩
abbrev vF(p:Fc):Array V_:= #[p.K,d_ p.A,d_ p.B,d_ p.R,p.lo,p.hi]
def lF(p:Fc):List Lit:=[.int .i64 p.K,.string p.A,.string p.B,.string p.R,.int .i64 p.lo,.int .i64 p.hi]
def okF(p:Fc):Prop:=(Lit.int .i64 p.K).wf=true/\l_ p.A<=m_/\l_ p.B<=m_/\l_ p.R<=m_/\(Lit.int .i64 p.lo).wf=true/\(Lit.int .i64 p.hi).wf=true
def tF:TK 152 6:=⟨Cg k_,k_,k_,k_,k_⟩
def ahY:WideMaps.KeyLaw prog 152:=tF.law
def SY(p:Fc)(a:okF p):keyOf prog 152 (.agg (vF p))=some (.string (keyBytes (lF p))):=tF.key underlying152 rfl S ⟨rfl,.inr ⟨rfl,_,rfl,rfl,a.1⟩,rfl,.inl ⟨rfl,_,rfl,rfl,a.2.1⟩,rfl,.inl ⟨rfl,_,rfl,rfl,a.2.2.1⟩,rfl,.inl ⟨rfl,_,rfl,rfl,a.2.2.2.1⟩,rfl,.inr ⟨rfl,_,rfl,rfl,a.2.2.2.2.1⟩,rfl,.inr ⟨rfl,_,rfl,rfl,a.2.2.2.2.2⟩,trivial⟩
noncomputable def KF:KK prog 152 Fc:=⟨λp=> .agg (vF p),λp=> .string (keyBytes (lF p)),okF,hz_ ahY,SY,λx y H a e=>by
 have h:=tF.inj (SY x H) (SY y a) e;cases x;cases y;simp at h
 simp[h]⟩
structure Rl where
 first:St
 second:St
 U:St
deriving DecidableEq
abbrev vR(p:Rl):Array V_:= #[d_ p.first,d_ p.second,d_ p.U]
def lR(p:Rl):List Lit:=[.string p.first,.string p.second,.string p.U]
def okR(p:Rl):Prop:=l_ p.first<=m_/\l_ p.second<=m_/\l_ p.U<=m_
def tR:TK 311 3:=⟨Cg k_,k_,k_,k_,k_⟩
def ahZ:WideMaps.KeyLaw prog 311:=tR.law
def S9(p:Rl)(a:okR p):keyOf prog 311 (.agg (vR p))=some (.string (keyBytes (lR p))):=tR.key underlying311 rfl S ⟨rfl,.inl ⟨rfl,_,rfl,rfl,a.1⟩,rfl,.inl ⟨rfl,_,rfl,rfl,a.2.1⟩,rfl,.inl ⟨rfl,_,rfl,rfl,a.2.2⟩,trivial⟩
noncomputable def KR:KK prog 311 Rl:=⟨λp=> .agg (vR p),λp=> .string (keyBytes (lR p)),okR,hz_ ahZ,S9,λx y H a e=>by
 have h:=tR.inj (S9 x H) (S9 y a) e;cases x;cases y;simp at h
 simp[h]⟩
structure Ky where
 K:Int
 U:St
 atom:St
deriving DecidableEq
abbrev vY(p:Ky):Array V_:= #[p.K,d_ p.U,d_ p.atom]
def lY(p:Ky):List Lit:=[.int .i64 p.K,.string p.U,.string p.atom]
def okY(p:Ky):Prop:=(Lit.int .i64 p.K).wf=true/\l_ p.U<=m_/\l_ p.atom<=m_
def tY:TK 325 3:=⟨Cg k_,k_,k_,k_,k_⟩
def afX:WideMaps.KeyLaw prog 325:=tY.law
def Ta(p:Ky)(a:okY p):keyOf prog 325 (.agg (vY p))=some (.string (keyBytes (lY p))):=tY.key underlying325 rfl S ⟨rfl,.inr ⟨rfl,_,rfl,rfl,a.1⟩,rfl,.inl ⟨rfl,_,rfl,rfl,a.2.1⟩,rfl,.inl ⟨rfl,_,rfl,rfl,a.2.2⟩,trivial⟩
noncomputable def KY:KK prog 325 Ky:=⟨λp=> .agg (vY p),λp=> .string (keyBytes (lY p)),okY,hz_ afX,Ta,λx y H a e=>by
 have h:=tY.inj (Ta x H) (Ta y a) e;cases x;cases y;simp at h
 simp[h]⟩
structure Sp where
 atom:St
 U:St
deriving DecidableEq
abbrev vS(p:Sp):Array V_:= #[d_ p.atom,d_ p.U]
def lS(p:Sp):List Lit:=[.string p.atom,.string p.U]
def okS(p:Sp):Prop:=l_ p.atom<=m_/\l_ p.U<=m_
def tS:TK 284 2:=⟨Cg k_,k_,k_,k_,k_⟩
def ZG:WideMaps.KeyLaw prog 284:=tS.law
def Te(p:Sp)(a:okS p):keyOf prog 284 (.agg (vS p))=some (.string (keyBytes (lS p))):=tS.key underlying284 rfl S ⟨rfl,.inl ⟨rfl,_,rfl,rfl,a.1⟩,rfl,.inl ⟨rfl,_,rfl,rfl,a.2⟩,trivial⟩
noncomputable def KS:KK prog 284 Sp:=⟨λp=> .agg (vS p),λp=> .string (keyBytes (lS p)),okS,hz_ ZG,Te,λx y H a e=>by
 have h:=tS.inj (Te x H) (Te y a) e;cases x;cases y;simp at h
 simp[h]⟩
def info3:(prog.info? 3).map (λi=>(i.zero,i.size,i.bytes))=some (some (.int .i64 0),1,8):=k_
def VF:(prog.info? 31).map (λi=>(i.zero,i.size,i.bytes))=some (some (.slice none 0 0),1,24):=k_
def ZH(w:W_)(l:I_)(e:E_)(w':W_):Prop:=∃v,e=.returned v/\w'.ownsRow w 3 1 v (l_ l) (l.map iV)/\G w w'
theorem Gl(v:V_)(l:I_)(w:W_)(h:SI w v l)(hl:l_ l<=1000000):z 54 #[v] w (ZH w l):=by obtain⟨A,c,rfl,H,t,i⟩:=h.form;rcases A with _|a;(·(have d:l_ l=0:=by grind);have:l=[]:=Jg d;subst this;refine(Tryz.AJ _ c w).mono ?_;rintro e w' ⟨rfl,rfl⟩;exact⟨_,rfl,Ce _ _ _ _,fu _ _⟩);.by_cases d:l_ l=0;(.have:l=[]:=Jg d;subst this;refine(Tryz.uX a c w).mono ?_;rintro e w' ⟨v',rfl,f,_,g⟩;exact⟨v',rfl,f,g⟩);.have⟨b,o,e,hb,s⟩:=i U;injection e with e;subst e;have⟨I,hi,p,q,r⟩:=qw info3;refine(Tryz.Jy I (.int .i64 0) 1 8 hi p q r rfl D sizeOf3 b o (l_ l) c (l.map iV) w S U U (λj u k=>?_) (λu m=>?_)).mono ?_;(.grind);(.obtain⟨x,_,rfl⟩:=pq.1 m;rfl);.rintro e w' ⟨v',rfl,f,_,g⟩;exact⟨v',rfl,f,g⟩
noncomputable def tK (a:H_) (l:I_):H_:=if l∈a then a else a++[l]
noncomputable def uniq (L:H_):H_:=L.foldl tK []
def WX{x:I_}(a:L[k]?=some x):uniq (L.take (k+1))=tK (uniq (L.take k)) x:=by unfold uniq;rw[G_ a,ac_];rfl
theorem Tf(a:H_)(x l:I_):l∈tK a x↔l∈a\/l=x:=by unfold tK;grind
theorem MX(h:d.Nodup)(x:I_):(tK d x).Nodup:=by unfold tK;grind
def Pv:∀(L a:H_)(l:I_),l∈L.foldl tK a↔l∈a\/l∈L
 |[],_,_=>S
 |_::L,_,_=>by rw[fe_,Pv L,Tf,jL,Y0]
def Gm:∀(L a:H_),a.Nodup->(L.foldl tK a).Nodup
 |[],_,h=>h
 |x::L,_,h=>Gm L _ (MX h x)
def ZI(L:H_)(l:I_):l∈uniq L↔l∈L:=by unfold uniq;rw[Pv];simp
def Tg(L:H_):(uniq L).Nodup:=Gm L [] hd_
noncomputable def K9:KK prog 9 (List UInt8):=adA underlying9
noncomputable def MZ (a:H_):List UInt8->Option V_:=λs=>if ∃l∈a,nW l=s then some (.bool true) else none
theorem ZJ(a:H_)(x:I_):MZ a (nW x)=if x∈a then some (.bool true) else none:=by unfold MZ;by_cases h:x∈a;(.rw[P_ h,P_ ⟨x,h,rfl⟩]);.rw[C_ h,C_];rintro⟨l,hl,e⟩;rw[Pq e]at hl;grind
theorem WY(d:H_)(x:I_):upd (MZ d) (nW x) (some (.bool true))=MZ (d++[x]):=by funext s;unfold upd MZ;by_cases h:s=nW x;(.rw[P_ h,P_ ⟨x,S,h.symm⟩]);.rw[C_ h];by_cases c:∃l∈d,nW l=s;(.rw[P_ c,P_];grind);grind
def KQ(h:h_ w K9 b n (MZ d)){x:I_}(e:l_ (nW x)<=m_)(H:jS (x∈d)=c):(Instr.lookup 169 (.map (some b)) (.string ⟨(nW x).toArray⟩) false).run prog w=.ok (.bool c) w:=by have:=h.look underlying169 (zeroValue4 w) (x:=nW x) e;rw[ZJ]at this;by_cases a:x∈d;(.rw[P_ a]at this;rwa[<-H,fQ a]);.rw[C_ a]at this;rwa[<-H,fF a]
def IsSorted(L M:H_):Prop:=M.Pairwise vk/\∀l,l∈M↔l∈L
def Gn(B:Nat)(u:V_):Prop:=∀a n c,u=.slice (some a) n c->0<n->B<=a.block
theorem sO{B':Nat}(h:w.ownsRow B e 1 u n xs)(hb:B'<=B):Gn B' u:=by intro a n' c d _;rcases h.2 with⟨rfl,_⟩|⟨g,cap,k,rfl,f,_⟩;(.cases d);grind
def Ti(w:W_)(L:H_)(e:E_)(w':W_):Prop:=∃v ps,e=.returned v/\(kD w' w v ps/\∀p∈ps,Gn w p.1)/\IsSorted L (ps.map (·.2))/\l_ ps<=l_ L/\G w w'
theorem CX{M:H_}(h:M.Pairwise (λa b=>¬vk b a))(c:M.Nodup):M.Pairwise vk:=by rw[R7]at h ⊢;intro i j hi d e;rcases KG M[i] M[j]with a|a|a;(.exact a);(.exact absurd ((cq_ c).1 a) U);grind
def SI.KU{k:T_}{g:Type}{K:KK P k g}{l:I_}{f:g->Option V_}(h:SI w u l)(j:h_ w K m n f):Apart u (some m):=by intro a n' c e i d;have⟨A,t,H,_,_,o⟩:=h.form;rw[e]at H;injection H with p q v;subst p q;have⟨b,B,hb,_,s⟩:=o i;injection hb with hb;subst hb;injection d with d;have⟨x,r⟩:=get_some i;have z:=s 0 x r;obtain⟨D,⟨y,C,hb,_⟩,_⟩:=j;subst d;simp[World.cell?,hb]at z
theorem uE(h:w.ownsRow B e 1 u n xs)(f:∀g,o=some g->g<B):Apart u o:=by intro a n' c d _ i;rcases h.2 with⟨rfl,_⟩|⟨g,cap,l,rfl,hb,_⟩;(.cases d);grind
def WZ{v:V_}{l:I_}(h:w.ownsRow B e 1 v n xs)(b:SI w' u l)(H:w'<=B):Apart u v.ownBlock:=by intro a n' c d f g;have i:=b.block_lt d f;have j:=(h.lt _ g.symm).1;omega
def new1(w:W_)(n:Nat)(a:n=w)(t:T_)(u:V_):∀(j:Nat)(x:V_),[u][j]?=some x->(w.alloc (.cells #[u] t)).cell? ((n:Addr).add j)=some x:=by
 subst a;intro j x h;rw[add_lit,ji]
 match j,h with
 |0,h=>simpa using h
 |j+1,h=>simp at h
def xH(h:∃A n c,u=.slice A n c):∀x∈[u],x.oneCell'=true:=by intro x a;obtain⟨A,n,c,rfl⟩:=h;rw[gW.1 a];rfl
def Tj(v:V_)(L:H_)(w:W_)(h:SS w v L)(hw:wfS L)(hl:l_ L<=1000000)(aj:∀l∈L,l_ l<=1000000)(ac:Tab w):z 245 #[v] w (Ti w L):=by
 obtain⟨a7,c1,rfl,aJ,aK,ak⟩:=h.form;have aD:=O ak;have aE:=O hw;have aL:=O aj;have aF:=O ac;clear ak h aK hw ac aj aJ;have ba:= @run_makeMap prog;obtain⟨i0,hi,aM,aN,aO⟩:=qw VF;go_in;go_wp2;go_loopw [2,10] (λaG i wr=>∃(k:Nat)(ps:List (V_×I_)),k<=l_ L/\i=.int .i64 k/\l_ ps<=k/\Hid (ps.map (·.2)=uniq (L.take k))/\Hid (kD wr (w+1) aG ps)/\Hid (∀p∈ps,Gn w p.1)/\Hid (h_ wr K9 w k (MZ (ps.map (·.2))))/\G w wr/\w.heap.size+1<=wr.heap.size) (λ_ i _=>l_ L-(intOf i).toNat);exact⟨0,[],gZ _,rfl,gH _,O rfl,O (kD.nil _ _),O (λ_ h=>by cases h),O (by have:=h_.made w K9;exact this.congr λx _=>by unfold MZ;rw[C_ S]),(fu _ _).alloc (gH _) _,S⟩;obtain⟨k,ps,a8,rfl,aP,t,y,K,ad,J,aQ⟩:=hrel;by_cases aR:k<l_ L
 .obtain⟨b1,aH,rfl,aS,aC⟩:=aD.o U
  obtain⟨x,m⟩:=get_some aR;obtain⟨u,ae,E⟩:=aC k x m;obtain⟨a9,a',rfl⟩:=SI.slice_form E;have aI:=(J.cell (p:=a_ b1 (aH+k)) aS).trans ae;have P:=O (S1.up E J);have am:=aL.o x (gV m);have an:=O (aE.o x (gV m));(have ao:l_ (nW x)<=m_:=by have:=Gh x an.o;unfold m_;omega);have T:=O ao;have af:=O (WX m);clear m E aC ae ao;go_wp2_with fail;refine(acr _ x _ P.o an.o am (aF.o.up J)).mono ?_;rintro e F ⟨rfl,b⟩;have d:=O (ad.o.up b);have f:=O (y.o.up b);have W:=O (S1.up P.o b);have X:=b_ J b;have V:w.heap.size+1<=F.heap.size:=gY aQ b.size;clear ad y P b aI J
  cases j:jS (x∈ps.map (·.2)) with
  |true=>
   have ap:=KQ d.o T.o j;have H:=O j;clear j;go_wp2;go_roundw;exact⟨k+1,ps,U,R,U,O (by rw[af.o,<-t.o];unfold tK;rw[P_ (jE.1 H.o)]),f,K,O (d.o.mono U),X,V⟩;exact M
  |false=>
   have ap:=KQ d.o T.o j;have H:=O j;clear j;go_wp2_with (at_mapUpdate;refine iI _ rfl _ _ _ 169 rfl 4 K9 underlying169 w k _ rfl d.o ?c1 (nW x) T.o (.bool true) rfl rfl ?_);(case c1=>unfold m_;omega);intro ag Z n;rw[WY]at Z;have aq:=O Z;have ar:=sG X n (λk e=>by cases e;exact gH _);have Y:w.heap.size+1<=ag.heap.size:=gY V n.size
   have N:Hid (kD ag (w+1) u2 ps):=O (f.o.kept n (by
    rcases aT:u2.ownBlock with _|g;.exact .inl rfl
    .refine .inr λe=>?_
     injection e with e;have:=(f.o.1.lt g aT).1
     omega) (λp a=>(f.o.2 p a).1.KU d.o))
   have au:=O (SI.kept W.o n (SI.KU W.o d.o));clear Z n d f W X V ap;go_wp2_with fail;refine(Gl _ x _ au.o am).mono ?_;rintro e I ⟨v3,rfl,o,q⟩;obtain⟨c,c3,rfl⟩:=n_ o;have r:=O (N.o.up q);have av:=O (aq.o.up q);have aw:Hid (SI I (.slice c (l_ x) c3) x):=O (jg o);have ax:Hid (Apart (.slice c (l_ x) c3) u2.ownBlock):=O (uE o λg A=>(N.o.1.lt g A).2);have aU:Hid (Gn w (.slice c (l_ x) c3)):=O (sO o U);have aV:=b_ ar q;have bb:w.heap.size+1<=I.heap.size:=gY Y q.size;clear o q aq N au ar Y;go_wp2_with (at_builtin;refine wpList_append_own_at _ rfl _ _ 35 rfl (w+1) 31 i0 (.slice none 0 0) 1 24 underlying35 hi aM aN aO rfl D _ _ _ rfl (r.o.1.alloc _) I 1 1 [.slice c (l_ x) c3] rfl rfl ?a1 ?a2 ?a3 ?a4 ?a5 ?_);(case a1=>exact new1 _ _ rfl _ _);(case a2=>exact xH ⟨_,_,_,rfl⟩);(case a3=>simp only[m_];omega);(case a4=>omega);(case a5=>simp;omega);intro v4 B aB s _ ay;have aW:Hid (kD B (w+1) v4 (ps++[(Value.slice c (l_ x) c3,x)])):=O ((r.o.alloc _).snoc rfl rfl aB s (Q ay) (aw.o.al _) ax.o);have aX:G w B:=(X_ aV _).grown s (by simp;omega) (λk e=>by have:=(r.o.1.lt k e).1;omega)
   have aY:Hid (h_ B K9 w (k+1) (MZ ((ps++[(Value.slice c (l_ x) c3,x)]).map (·.2)))):=O (by
    rw[wO]
    exact(av.o.alloc _).kept s (λe=>by have:=(r.o.1.lt _ e.symm).1;omega))
   (have a6:w.heap.size+1<=B.heap.size:=by have:=s.size;simp at this;omega);clear aB s ay av r aw ax;go_wp2;go_roundw
   exact⟨k+1,ps++[(Value.slice c (l_ x) c3,x)],U,R,by simp;omega,O (by rw[af.o,<-t.o,wO];unfold tK;rw[C_ (jF.1 H.o)];rfl),aW,O (λp a=>by
    rcases iq.1 a with a|a;.exact K.o p a
    .rw[gW.1 a];exact aU.o),aY,aX,a6⟩
   exact M
 ·(obtain rfl:k=l_ L:=by omega);have az:Hid (ps.map (·.2)=uniq L):=O (by have:=t.o;rwa[jy]at this);clear t;go_wp2_with fail;refine(Gj _ _ ps _ y.o U).mono ?_;rintro e F ⟨rfl,aZ,a,ah,ai,A⟩;have C:=O a;have a0:=O ah;have f:=O ai;have b:G w F:=J.grown A J.size (λk e=>by have:=(y.o.1.lt k e).1;omega);clear a ah ai A;go_wp2;go_ret;refine⟨u2,aZ,rfl,⟨f.o.lower U,λp a=>K.o p (C.o.mem_iff.1 a)⟩,⟨CX a0.o ?_,λl=>?_⟩,?_,b⟩;(.exact(C.o.map (·.2)).nodup_iff.2 (by rw[az.o];exact Tg L));(.rw[(C.o.map (·.2)).mem_iff,az.o,ZI]);.rwa[C.o.length_eq]
noncomputable def W9 (a:H_) (s:I_):H_:= @ite _ (∃t∈a,rC t s) (Classical.propDecidable _) a (a++[s])
def Pw{a:H_}(h:∃t∈a,rC t s):W9 a s=a:=by unfold W9;exact P_ h
def Px{a:H_}(h:¬∃t∈a,rC t s):W9 a s=a++[s]:=by unfold W9;exact C_ h
noncomputable def M0 (S:H_):H_:=S.foldl W9 []
def KV{S:H_}{x:I_}(a:S[k]?=some x):M0 (S.take (k+1))=W9 (M0 (S.take k)) x:=by unfold M0;rw[G_ a,ac_];rfl
def D8(L M:H_):Prop:=M.Pairwise vk/\∀l,l∈M↔l∈L/\∀t∈L,¬rC t l
def Tk{a b c:I_}(d:rC a b)(e:rC b c):rC a c:=⟨Nat.lt_trans d.1 e.1,λx f=>e.2 x (d.2 x f)⟩
def acs{a b:I_}(h:rC a b):vk a b:=SA h.1
def KW:∀(k:Nat)(S:H_),S.Pairwise vk->k<=l_ S->D8 (S.take k) (M0 (S.take k))
 |0,S,_,_=>by
  have:S.take 0=[]:=rfl;rw[this];exact⟨List.Pairwise.nil,λl=>by simp[M0]⟩
 |k+1,S,j,A=>by
  have⟨x,g⟩:=get_some (l:=S) (k:=k) U;have⟨m,e⟩:=KW k S j U;(have p:∀t∈S.take k,vk t x:=by intro t c;obtain⟨i,hi,rfl⟩:=ad_ c;rw[wE]at hi;obtain⟨y,rfl⟩:=jv.1 g;rw[ag_];exact R7.1 j i k U y U);(have q:∀l∈S.take k,¬rC x l:=λl hl h=>KH (acs h) (p l hl));rw[KV g,G_ g]
  have K:(∃t∈M0 (S.take k),rC t x)↔∃t∈S.take k,rC t x:=by
   constructor;.rintro⟨t,c,d⟩;exact⟨t,((e t).1 c).1,d⟩
   .rintro⟨t,c,d⟩
    have:∀(n:Nat)(t:I_),l_ t<=n->t∈S.take k->rC t x->∃t∈M0 (S.take k),rC t x:=by
     intro n
     induction n with
     |zero=>
      intro t s c d;exact⟨t,(e t).2 ⟨c,λu _ f=>by have:=f.1;omega⟩,d⟩
     |succ n v=>
      intro t s c d;by_cases o:∃u∈S.take k,rC u t;(.obtain⟨u,f,r⟩:=o;exact v u (by have:=r.1;omega) f (Tk r d));.exact⟨t,(e t).2 ⟨c,λu f h=>o ⟨u,f,h⟩⟩,d⟩
    exact this _ t (gH _) c d
  by_cases H:∃t∈M0 (S.take k),rC t x;(.rw[Pw H];refine⟨m,λl=>?_⟩;rw[e];constructor;(.rintro⟨a,b⟩;refine⟨Jf _ a,λt c=>?_⟩;rcases iq.1 c with c|c;(.exact b t c);.rw[gW.1 c];exact q l a);.rintro⟨a,b⟩;rcases iq.1 a with a|a;(.exact⟨a,λt c=>b t (Jf _ c)⟩);.rw[gW.1 a]at b;have⟨t,c,d⟩:=K.1 H;exact absurd d (b t (Jf _ c)));.rw[Px H];refine⟨am_.2 ⟨m,an_ _ _,λa w b hb=>?_⟩,λl=>?_⟩;(.rw[gW.1 hb];exact p a ((e a).1 w).1);.rw[iq,e,iq,gW];constructor;(.rintro(⟨a,b⟩|rfl);(.refine⟨.inl a,λt c=>?_⟩;rcases iq.1 c with c|c;(.exact b t c);.rw[gW.1 c];exact q l a);.refine⟨.inr rfl,λt c d=>?_⟩;rcases iq.1 c with c|c;(.exact H (K.2 ⟨t,c,d⟩));.rw[gW.1 c]at d;exact absurd d.1 U);.rintro⟨a|a,b⟩;(.exact .inl ⟨a,λt c=>b t (Jf _ c)⟩);.exact .inr a
def ET{S M:H_}(c:IsSorted L S)(h:D8 S M):D8 L M:=⟨h.1,λl=>by rw[h.2,c.2];exact⟨λ⟨a,b⟩=>⟨a,λt d=>b t ((c.2 t).2 d)⟩,λ⟨a,b⟩=>⟨a,λt d=>b t ((c.2 t).1 d)⟩⟩⟩
def acu(w:W_)(L:H_)(e:E_)(w':W_):Prop:=∃v ps,e=.returned v/\(kD w' w v ps/\∀p∈ps,Gn w p.1)/\D8 L (ps.map (·.2))/\l_ ps<=l_ L/\G w w'
def Py(v:V_)(L:H_)(w:W_)(h:SS w v L)(hw:wfS L)(aZ:∀l∈L,Inc l)(hl:l_ L<=1000000)(aB:∀l∈L,l_ l<=1000000)(F:Tab w):z 196 #[v] w (acu w L):=by
 obtain⟨a0,c1,rfl,_⟩:=h.form;have H:=O h;clear h;obtain⟨i0,hi,aC,aD,aE⟩:=qw VF;go_in;go_wp2;go_step3;go_wp2;go_step3;go_wp2_with fail;refine(Tj _ L _ H.o hw hl aB F).mono ?_;rintro e f ⟨a1,ps,rfl,⟨W,aF⟩,X,aG,aj⟩;obtain⟨ap,c2,rfl⟩:=n_ W.1;have Z:=W.sp;obtain⟨aH,aI,n,_,_,aq⟩:=Z.1.form;(obtain⟨rfl,rfl⟩:ap=aH/\c2=aI:=by injection n with g ar I;exact⟨g,I⟩);have au:=O Z.2;(have aJ:∀p∈ps,Inc p.2:=λp c=>aZ p.2 ((X.2 p.2).1 (pq.2 ⟨p,c,rfl⟩)));have ba:l_ ps<=1000000:=U;clear W Z n H;go_wp2;go_loopw [2,10] (λav i wr=>∃(k:Nat)(b:List (V_×I_)),k<=l_ ps/\i=.int .i64 k/\l_ b<=k/\Hid (b.map (·.2)=M0 ((ps.map (·.2)).take k))/\Hid (kD wr f av b)/\Hid (∀q∈b,Inc q.2/\Gn w q.1)/\G f wr) (λ_ i _=>l_ ps-(intOf i).toNat);exact⟨0,[],gZ _,rfl,gH _,O rfl,O (kD.nil _ _),O (λ_ h=>by cases h),fu _ _⟩;obtain⟨k,b,a2,rfl,aK,K,d,s,J⟩:=hrel;by_cases aL:k<l_ ps
 .obtain⟨b1,aw,rfl,aM,r⟩:=aq U
  obtain⟨p,c⟩:=get_some aL;have m:=au.o p (gV c);have ax:=(J.cell (p:=a_ b1 (aw+k)) aM).trans (r k p c);have N:=aJ p (gV c);have V:=aF p (gV c);(have ak:(ps.map (·.2))[k]?=some p.2:=by rw[J8,c];rfl);have Y:=O (KV ak);clear r c ak;obtain⟨u,x⟩:=p;dsimp only at m ax N V Y;obtain⟨A,B,rfl⟩:=SI.slice_form m;have aN:=O m;have P:=(S1.up m J);have ad:=O N;have aO:=O V;clear m N V;obtain⟨ag,ah,rfl⟩:=n_ d.o.1;obtain⟨aP,aQ,n,_,_,aR⟩:=d.o.sp.1.form;(obtain⟨rfl,rfl⟩:ag=aP/\ah=aQ:=by injection n with g ar I;exact⟨g,I⟩);have aS:=O d.o.sp.2;clear n;go_wp2;go_loop [16] (λi=>∃j:Nat,j<=l_ b/\i=.int .i64 j/\Hid (∀q∈b.take j,¬rC q.2 x)) (λi=>l_ b-(intOf i).toNat);exact⟨0,gZ _,rfl,O λ_ h=>by cases h⟩;obtain⟨j,a6,rfl,T⟩:=hrel;by_cases aT:j<l_ b
  .obtain⟨b2,a7,rfl,bb,r⟩:=aR U
   obtain⟨q,a⟩:=get_some aT;have ay:=r j q a;have C:=aS.o q (gV a);have ae:=O (s.o q (gV a)).1;have aU:=(gV a);have aV:=(G_ a);clear r a;obtain⟨a8,y⟩:=q;dsimp only at C ay ae;obtain⟨a9,a',rfl⟩:=SI.slice_form C;have am:=O C;clear C
   cases E:jS (rC y x) with
   |true=>
    have o:=O E;clear E;go_wp2_with fail;refine(DZ _ _ y x _ am.o P ae.o ad.o o.o).mono ?_;rintro e az ⟨rfl,rfl⟩;go_wp2;go_roundw;exact⟨k+1,b,U,R,U,O (by rw[Y.o,<-K.o,Pw ⟨y,pq.2 ⟨_,aU,rfl⟩,jE.1 o.o⟩]),d,s,J⟩;exact M
   |false=>
    have o:=O E;clear E;go_wp2_with fail;refine(DZ _ _ y x _ am.o P ae.o ad.o o.o).mono ?_;rintro e az ⟨rfl,rfl⟩;go_wp2;go_round
    exact⟨j+1,U,R,O λq a=>by
     rw[aV]at a;rcases iq.1 a with a|a;.exact T.o q a
     .rw[gW.1 a];exact jF.1 o.o⟩
    exact M
  .obtain rfl:j=l_ b:=by omega
   have aA:¬∃t∈b.map (·.2),rC t x:=(by
    rintro⟨t,F,c⟩;obtain⟨q,a,rfl⟩:=pq.1 F;have:=T.o;rw[jy]at this
    exact this q a c)
   clear T;have aW:Apart (.slice A (l_ x) B) (Value.slice ag (l_ b) ah).ownBlock:=(WZ d.o.1 aN.o (gH _));go_wp2_with (at_builtin;refine wpList_append_own_at _ rfl _ _ 35 rfl f 31 i0 () 1 24 underlying35 hi aC aD aE rfl D _ _ _ rfl (d.o.1.alloc _) wr 1 1 [.slice A (l_ x) B] rfl rfl (new1 _ _ rfl _ _) (xH ⟨_,_,_,rfl⟩) ?a3 ?a4 ?a5 ?_);(case a3=>simp only[m_];omega);(case a4=>omega);(case a5=>have:=J.size;simp;omega);intro v4 ai ao af _ an;have aX:Hid (kD ai f v4 (b++[(Value.slice A (l_ x) B,x)])):=O ((d.o.alloc _).snoc rfl rfl ao af (Q an) (P.al _) aW);have aY:G f ai:=(X_ J _).grown af (by have:=J.size;simp;omega) (λk e=>(d.o.1.lt k e).1);clear ao af an;go_wp2;go_roundw
   exact⟨k+1,b++[(Value.slice A (l_ x) B,x)],U,R,by simp;omega,O (by rw[Y.o,<-K.o,wO,Px aA];rfl),aX,O (λq a=>by
    rcases iq.1 a with a|a;.exact s.o q a
    .rw[gW.1 a];exact⟨ad.o,aO.o⟩),aY⟩
   exact M
 ·(obtain rfl:k=l_ ps:=by omega);go_wp2;go_ret;refine⟨u2,b,rfl,⟨d.o.lower aj.size,λp c=>(s.o p c).2⟩,?_,gY aK aG,b_ aj J⟩;have g:=KW (l_ ps) (ps.map (·.2)) X.1 S;rw[<-K.o,J9 S]at g;exact ET X g
section
variable{a:Type}{k:T_}
variable{w w':W_}
theorem iF{size:Nat}{v:V_}(h:w.ownsRow B e size v n xs)(a:∀g,v.ownBlock=some g->w'.heap[g]?=w.heap[g]?):w'.ownsRow B e size v n xs:=by refine⟨h.1,?_⟩;rcases h.2 with b|⟨g,cap,d,rfl,hb,c,r⟩;(.grind);.exact .inr ⟨g,cap,d,rfl,hb,(a g rfl).trans c,r⟩
def SI.block{l:I_}(h:SI w u l)(f:(w:Nat)<=w')(g:∀a n c,u=.slice (some a) n c->0<n->w'.heap[a.block]?=w.heap[a.block]?):SI w' u l:=by obtain⟨A,c,rfl,H,j,k⟩:=h.form;(refine S1.mk H j λe=>?_);obtain⟨b,d,rfl,hb,m⟩:=k e;exact⟨b,d,rfl,qO hb f,λi x hi=>(EH (w:=w) (a:=a_ b (d+i)) (g (a_ b d) _ _ rfl e)).trans (m i x hi)⟩
def h_.block{K:KK P k a}{f:a->Option V_}(h:h_ w K b n f)(c:w'.heap[b]?=w.heap[b]?):h_ w' K b n f:=by obtain⟨D,⟨d,g,hb,r⟩,e⟩:=h;exact⟨D,⟨d,g,c.trans hb,r⟩,e⟩
def f_.block{a:A_}(h:f_ w g t a)(b:w'.heap[g]?=w.heap[g]?):f_ w' g t a:=b.trans h
end
theorem h_.few{k:T_}{g:Type}[DecidableEq g]{K:KK P k g}{f:g->Option V_}(h:h_ w K b n f)(E:List g)(u:∀x,K.ok x->f x≠none->x∈E):h_ w K b (l_ E) f:=by
 obtain⟨D,o,q,c,rfl,r⟩:=h;have⟨W,m,v⟩:=o.tidy K.keyed;injection m with m;subst m
 have X:l_ c<=l_ E:=by
  classical
  (have I:∀p∈c,∃x∈E,K.kl x=p.1:=by intro p j;have⟨x,d,e⟩:=r p j;refine⟨x,u x d λA=>?_,e.symm⟩;have l:=(q x d).1;rw[A,bv_]at l;(have s:p.1.sameKey (K.kl x)=true:=by rw[e];have B:=K.keyed.key (K.key x d);have:=bw_ (D:= .map []) ⟨_,rfl⟩ B (DataW.held (H:=V_) (.bool true));simpa[bv_,DataW.put,DataW.insert]using this);grind);have L:(c.map (·.1)).Nodup:=by unfold List.Nodup;rwa[by_]
  have:=lZ (a:=c.map (·.1)) (b:=E.map K.kl) L (λy C=>by
   obtain⟨p,j,rfl⟩:=pq.1 C;have⟨x,d,e⟩:=I p j
   exact pq.2 ⟨x,d,e⟩)
  simpa using this
 obtain⟨t,T,hb,F,s,i⟩:=o;refine⟨.map c,⟨t,T,hb,F,?_,i⟩,q,c,rfl,r⟩;injection i with i;(have:l_ c=t.size:=by rw[i];simp[length_sorted]);omega
structure FK where
 a:Nat
 vs:V_
 mw:Nat
 hb:Nat
 hc:Nat
 mf:Nat
 S:H_
 base0:Nat
 base:Nat
variable{K:FK}
abbrev FK.hv(K:FK):V_:= .slice K.hb (l_ K.S) K.hc
abbrev FK.p(K:FK):V_:= .pointer K.a
def cnt(n s:I_):Nat:=l_ (n.filter (·∈s))
def idxs(S:H_)(x:Int):I_:=((List.range (l_ S)).filter λi=>decide (x∈S.getD i [])).map λi:Nat=>(i:Int)
def wG(S:H_)(n:I_):I_:=S.map λs=>(cnt n s:Int)
def ZK(S:H_)(w:Int->V_):Int->Option V_:=λx=>if x∈S.flatten then some (w x) else none
def zu(S:H_)(f:Int->Bool):Int->Option V_:=λx=>if x∈S.flatten then some (.bool (f x)) else none
def ah0(B:Nat)(u:V_):Prop:=∀a n c,u=.slice (some a) n c->0<n->a.block<B
def FK.holds(K:FK)(u:V_):Prop:=Gn K.base0 u/\ah0 K.base u/\Apart u (some K.a)/\Apart u (some K.hb)/\Apart u (some K.mf)
structure uF(K:FK)(w:W_):Prop where
 rng:K.base0<=K.base/\K.base<=w
 ra:K.base0<=K.a/\K.a<K.base
 rw_:(K.base0<=K.mw/\K.mw<K.base)/\K.mw≠K.a/\K.mw≠K.hb/\K.mw≠K.mf
 rf:K.base0<=K.mf/\K.mf<K.base
 rh:K.base0<=K.hb/\K.hb<K.base
 ne:K.a≠K.hb/\K.a≠K.mf/\K.hb≠K.mf
 sets:∃ps:List (V_×I_),ps.map (·.2)=K.S/\w.ownsRow K.base0 31 1 K.vs (l_ ps) (ps.map (·.1))/\(∀g,K.vs.ownBlock=some g->g<K.base/\g≠K.a/\g≠K.hb/\g≠K.mf)/\∀p∈ps,SI w p.1 p.2/\K.holds p.1
 wth:∃wv n,h_ w K3 K.mw n (ZK K.S wv)/\∀x∈K.S.flatten,SI w (wv x) (idxs K.S x)/\K.holds (wv x)
 valid:j6 K.S
 few:l_ K.S<=100000/\l_ K.S.flatten<=1000000
structure Tm(K:FK)(w:W_)(now:List Int)(fr:Int->Bool):Prop where
 blk:∃nv,f_ w K.a 275 #[K.vs,.map (some K.mw),K.hv,.map (some K.mf),nv]/\w.ownsRow K.base 3 1 nv (l_ now) (now.map iV)
 hits:w.ownsRow K.base0 3 1 K.hv (l_ K.S) ((wG K.S now).map iV)
 free:h_ w K3 K.mf (l_ K.S.flatten) (zu K.S fr)
def Fam(K:FK)(w:W_)(n:I_)(f:Int->Bool):Prop:=uF K w/\Tm K w n f
def jr(K:FK)(w:W_):Option Nat:=(w.cell? (a_ K.a 4)).bind (·.ownBlock)
def Tm.jr{n:I_}(h:Tm K w n f):∃b,jr K w=b.ownBlock/\f_ w K.a 275 #[K.vs,.map (some K.mw),K.hv,.map (some K.mf),b]/\w.ownsRow K.base 3 1 b (l_ n) (n.map iV):=by have⟨b,c,d⟩:=h.blk;exact⟨b,by unfold Go.Proofs.YtgoapenfbanhaaaGreatDoor.jr;rw[c.cell 4];rfl,c,d⟩
section
variable{n:I_}{F:Int->Bool}
variable{K:FK}{w w':W_}
def uF.keep(h:uF K w)(r:(w:Nat)<=w')(i:∀k,K.base0<=k->k<K.base->k≠K.a->k≠K.hb->k≠K.mf->w'.heap[k]?=w.heap[k]?):uF K w':=by
 (have z:∀(u:V_)(l:I_),SI w u l->K.holds u->SI w' u l:=λu l t ⟨v,y,A,B,C⟩=>t.block r λa n c e b=>i _ (v a n c e b) (y a n c e b) (λd=>A a n c e b (by rw[d])) (λd=>B a n c e b (by rw[d])) (λd=>C a n c e b (by rw[d])));have⟨ps,e,s,hb,j⟩:=h.sets;have⟨E,n,F,m⟩:=h.wth
 exact {h with
  rng:=⟨h.rng.1,gY h.rng.2 r⟩
  sets:=⟨ps,e,iF s λg f=>i g (s.lt g f).1 (hb g f).1 (hb g f).2.1 (hb g f).2.2.1 (hb g f).2.2.2,hb,λp o=>⟨z _ _ (j p o).1 (j p o).2,(j p o).2⟩⟩
  wth:=⟨E,n,F.block (i _ h.rw_.1.1 h.rw_.1.2 h.rw_.2.1 h.rw_.2.2.1 h.rw_.2.2.2),λx q=>⟨z _ _ (m x q).1 (m x q).2,(m x q).2⟩⟩}
def Fam.keep{N:I_}(h:Fam K w N F)(f:(w:Nat)<=w')(b:∀k,K.base0<=k->k<K.base->w'.heap[k]?=w.heap[k]?)(i:∀g,jr K w=some g->w'.heap[g]?=w.heap[g]?):Fam K w' N F/\jr K w'=jr K w:=by obtain⟨H,c⟩:=h;have⟨j,o,hb,l⟩:=c.jr;have e:=b K.a H.ra.1 H.ra.2;refine⟨⟨H.keep f λk m n _ _ _=>b k m n,⟨⟨j,hb.block e,iF l λg d=>i g (o.trans d)⟩,iF c.hits λg d=>?_,c.free.block (b _ H.rf.1 H.rf.2)⟩⟩,?_⟩;(.cases d;exact b _ H.rh.1 H.rh.2);.unfold jr;rw[EH (w:=w) (a:=a_ K.a 4) e]
def Fam.up(h:Fam K w n f)(hb:G w w'):Fam K w' n f/\jr K w'=jr K w:=by(refine h.keep hb.size (λk _ a=>hb.block k (qO a h.1.rng.2)) λg b=>?_);have⟨e,d,_,c⟩:=h.2.jr;exact hb.block g (c.lt g (d.symm.trans b)).2
structure CY(K:FK)(W W':W_):Prop where
 os:W'.os=W.os
 tape:W'.tape=W.tape
 output:W'.output=W.output
 size:(W:Nat)<=W'
 same:∀k,k<W.heap.size->(k<K.base0\/K.base<=k)->some k≠jr K W->W'.heap[k]?=W.heap[k]?
 now:jr K W'=jr K W\/∃k,W.heap.size<=k/\jr K W'=some k
theorem CY.trans{B:W_}(a:CY K A B)(b:CY K B C):CY K A C:=by refine⟨b.os.trans a.os,b.tape.trans a.tape,b.output.trans a.output,gY a.size b.size,λk f g i=>?_,?_⟩;(.refine(b.same k (qO f a.size) g λe=>?_).trans (a.same k f g i);rcases a.now with h|⟨j,c,h⟩;(.grind);grind);.rcases b.now with h|⟨j,c,h⟩;(.rcases a.now with d|⟨j,c,d⟩;(.grind);grind);.exact .inr ⟨j,gY a.size c,h⟩
def CY.up(a:Fam K w n f)(hb:Below w w w'):CY K w w':=⟨hb.os,hb.tape,hb.output,hb.size,λk b _ _=>hb.block k b,.inl (a.up hb).2⟩
end
section
variable{b:Bool}
variable{K:FK}{w:W_}{now:I_}{fr:Int->Bool}
def uF.vC(h:uF K w)(a:x∈K.S.flatten):qD x/\0<=x/\x<=1023:=by have⟨s,b,c⟩:=bz_.1 a;have:=(h.valid s b).1 x c;exact⟨tJ U U,this.1,this.2⟩
def Tm.yJ(h:Tm K w now fr)(a:x∈K.S.flatten)(hw:qD x)(hb:fr x=b):(Instr.lookup 109 (.map (some K.mf)) (.int .i64 x) false).run prog w=.ok (.bool b) w:=by have:=h.free.look underlying109 (zeroValue4 w) hw;unfold zu at this;rwa[P_ a,hb]at this
def Tm.Gp(h:Tm K w now fr)(a:K.S[k]?=some s):N w K.hb k (V (cnt now s:Int)):=by have:=h.hits.cells (g:=K.hb) rfl k (.int .i64 (cnt now s:Int)) (by unfold wG;rw[J8,J8,a];rfl);rwa[add_lit,Jc]at this
def uF.C8(h:uF K w):∃A c,K.vs=.slice A (l_ K.S) c/\(0<l_ K.S->∃b a,A=some ⟨b,a,none⟩/\b<w/\∀i x,K.S[i]?=some x->∃u,N w b (a+i) u/\SI w u x):=by have⟨ps,e,d,_,f⟩:=h.sets;have k:SS w K.vs K.S:=⟨ps,e,jg d,λp l=>(f p l).1⟩;have⟨A,c,g,_,_,j⟩:=k.form;exact⟨A,c,g,j⟩
end
def Tn(K:FK)(w:W_)(n:I_)(e:E_)(w':W_):Prop:=w=w'/\((e=.returned (V (-1))/\∀s∈K.S,0<cnt n s)\/∃(j:Nat)(s:I_),e=.returned j/\K.S[j]?=some s/\cnt n s=0)
def ChI(S:H_)(n:I_)(k:Nat)(a:Int):Prop:=(a= -1/\∀s∈S.take k,0<cnt n s)\/∃(j:Nat)(s:I_),a=j/\S[j]?=some s/\cnt n s=0
def Tp(K:FK)(w:W_)(a:I_)(G:Int->Bool)(h:Fam K w a G):z 247 #[K.p] w (Tn K w a):=by
 obtain⟨B,q⟩:=h;have⟨A,c,H,W⟩:=B.C8;have⟨F,o,_⟩:=q.blk;rw[H]at o;have a0:N w K.a 0 (.slice A (l_ K.S) c):=o.cell 0;have a2:N w K.a 2 K.hv:=o.cell 2;have a3:N w K.a 3 (.map (some K.mf)):=o.cell 3;have az:=B.few.1;clear H o;go_in;go_wp2;go_loop [2,3,14] (λav X i=>∃(k:Nat)(p f:Int),k<=l_ K.S/\i=.int .i64 k/\av=.int .i64 p/\X=.int .i64 f/\Hid (ChI K.S a k p)) (λ_ _ i=>l_ K.S-(intOf i).toNat);exact⟨0,-1,0,gZ _,rfl,rfl,rfl,O (.inl ⟨rfl,λ_ h=>by cases h⟩)⟩;obtain⟨k,p,f,am,rfl,rfl,rfl,C⟩:=hrel;by_cases af:k<l_ K.S
 .obtain⟨b1,an,rfl,aw,T⟩:=W U
  have⟨s,e⟩:=get_some af;have⟨u,ao,r⟩:=T k s e;obtain⟨Z,J,rfl⟩:=SI.slice_form r;have ap:=q.Gp e;have⟨_,_,I,_,_,ag⟩:=r.form;(obtain⟨rfl,rfl⟩:_=Z/\_=J:=by injection I with b d E;exact⟨b.symm,E.symm⟩);have Q:=r.jH;unfold m_ at Q;(have ah:∀x∈s,x∈K.S.flatten:=λx l=>bz_.2 ⟨s,gV e,l⟩);clear T r I;have q1:0<=(k:Int):=U;have q2:(k:Int)<l_ K.S:=U;by_cases v:0<cnt a s
  .have S:decide ((0:Int)<(cnt a s:Int))=true:=by simp[v]
   (have ai:decide (0<cnt a s)=true:=by simp[v]);go_wp2;go_round
   exact⟨k+1,p,f,U,R,rfl,rfl,O (by
    rcases C.o with⟨b,d⟩|h;.refine .inl ⟨b,λt g=>?_⟩;rw[G_ e]at g;rcases iq.1 g with g|g;(.exact d t g);.rwa[gW.1 g]
    .exact .inr h)⟩
   exact M
  .have S:decide ((0:Int)<(cnt a s:Int))=false:=by simp;omega
   (have ai:decide (0<cnt a s)=false:=by simp;omega);have L:cnt a s=0:=U;clear v;go_wp2;go_loop [6,29] (λF i=>∃j m:Nat,j<=l_ s/\i=.int .i64 j/\F=.int .i64 m/\m<=j) (λ_ i=>l_ s-(intOf i).toNat);exact⟨0,0,gZ _,rfl,rfl,gH _⟩;obtain⟨j,m,aq,rfl,rfl,ax⟩:=hrel;by_cases aj:j<l_ s
   .obtain⟨b2,ar,rfl,ay,P⟩:=ag U
    have⟨x,l⟩:=get_some aj;have au:=P j x l;have n:=ah x (gV l);have y:=(B.vC n).1;clear P l
    cases D:G x with
    |true=>
     have hl:=q.yJ n y D;clear D n y;go_wp2;go_round;exact⟨j+1,m+1,U,R,R,U⟩;exact M
    |false=>
     have hl:=q.yJ n y D;clear D n y;go_wp2;go_round;exact⟨j+1,m,U,R,rfl,U⟩;exact M
   .by_cases ak:p<0
    ·(have V:decide (p<0)=true:=by simp[ak]);go_wp2;go_round;exact⟨k+1,k,m,U,R,rfl,rfl,O (.inr ⟨k,s,rfl,e,L⟩)⟩;exact M
    .have V:decide (p<0)=false:=by simp;omega
     by_cases al:(m:Int)<f;·(have Y:decide ((m:Int)<f)=true:=by simp[al]);go_wp2;go_round;exact⟨k+1,k,m,U,R,rfl,rfl,O (.inr ⟨k,s,rfl,e,L⟩)⟩;exact M
     .have Y:decide ((m:Int)<f)=false:=by simp;omega
      go_wp2;go_round
      exact⟨k+1,p,f,U,R,rfl,rfl,O (by
       rcases C.o with⟨b,_⟩|h;.omega
       .exact .inr h)⟩
      exact M
 ·(obtain rfl:k=l_ K.S:=by omega);go_wp2;go_ret;refine⟨rfl,?_⟩;rcases C.o with⟨b,d⟩|⟨j,s,b,d,E⟩;(.rw[jy]at d;subst b;exact .inl ⟨rfl,d⟩);.subst b;exact .inr ⟨j,s,rfl,d,E⟩
def Gq(S:H_)(n:I_):Prop:=∀x∈n,∃s∈S,cnt n s=1/\x∈s
def qh(S:H_)(n:I_)(k:Nat)(t:I_):Int->Option V_:=λx=>if x∈n/\x∉t/\¬(S.take k).any (λs=>decide (cnt n s=1)&&decide (x∈s))=true then some (.bool true) else none
def Tt(S:H_)(n:I_):qh S n 0 []=lU n:=by funext x;unfold qh lU;by_cases h:x∈n<;>simp[h]
def Xa(S:H_)(n:I_)(k:Nat)(t:I_)(x:Int):upd (qh S n k t) x none=qh S n k (t++[x]):=by funext y;unfold upd qh;by_cases h:y=x;(.rw[P_ h,C_];rintro⟨_,e,_⟩;exact e (by simp[h]));.rw[C_ h];by_cases d:y∈n/\y∉t/\¬(S.take k).any (λs=>decide (cnt n s=1)&&decide (y∈s))=true;(.rw[P_ d,P_];exact⟨d.1,by simp[d.2.1,h],d.2.2⟩);.rw[C_ d,C_];rintro⟨a,b,c⟩;exact d ⟨a,λhb=>b (by simp[hb]),c⟩
def Tv{S:H_}{n:I_}(a:S[k]?=some s)(h:cnt n s≠1):qh S n k []=qh S n (k+1) []:=by funext x;unfold qh;rw[G_ a,cb_];simp[h]
def Tw{S:H_}{n:I_}(b:S[k]?=some s)(H:cnt n s=1):qh S n k s=qh S n (k+1) []:=by funext x;unfold qh;rw[G_ b,cb_];by_cases a:x∈s;(.rw[C_ (λh=>h.2.1 a),C_];rintro⟨_,_,h⟩;exact h (by simp[a,H]));.simp[a]
def Tx(S:H_)(n:I_)(hw:∀x∈n,qD x):(∀x,qD x->qh S n (l_ S) [] x=none)↔Gq S n:=by unfold qh Gq;rw[jy];constructor;(.intro h x b;have d:=h x (hw x b);by_cases H:S.any (λs=>decide (cnt n s=1)&&decide (x∈s))=true;(.have⟨s,c,a⟩:=bx_.1 H;simp at a;exact⟨s,c,a.1,a.2⟩);.rw[P_ ⟨b,S_,H⟩]at d;cases d);.intro h x _;rw[C_];rintro⟨b,_,H⟩;have⟨s,c,a,e⟩:=h x b;exact H (bx_.2 ⟨s,c,by simp[a,e]⟩)
def M4(K:FK)(w:W_)(a:I_)(fr:Int->Bool)(h:Fam K w a fr)(hw:∀x∈a,qD x)(aI:l_ a<=1000000):Y 250 #[K.p] w (jS (Gq K.S a)):=by obtain⟨B,C⟩:=h;have⟨A,c,ag,ao⟩:=B.C8;have⟨aJ,v,am⟩:=C.blk;rw[ag]at v;have⟨ap,aq,aB,_,_,aC⟩:=(jg (f:=iV) am).form;subst aB;have ah:=v.lt;have I:=O v;have aP:=B.few.1;clear ag v am;have a4:N w K.a 4 (.slice ap (l_ a) aq):=I.o.cell 4;have aN:= @run_makeMap prog;go_in;go_wp2;go_loopw [16] (λi wr=>∃k:Nat,k<=l_ a/\i=.int .i64 k/\Hid (h_ wr K3 w k (lU (a.take k)))/\G w wr) (λi _=>l_ a-(intOf i).toNat);exact⟨0,gZ _,rfl,O (by have:=h_.made w K3;exact this.congr λx _=>by unfold lU;rw[C_ S]),(fu _ _).alloc (gH _) _⟩;obtain⟨k,J,rfl,b,z⟩:=hrel;by_cases t:k<l_ a;(.obtain⟨D,E,rfl,L,g⟩:=aC U;have⟨x,d⟩:=get_some t;have Q:=(z.cell (p:=a_ D (E+k)) L).trans (g k x d);have P:=(hw x (gV d));have F:=O d;clear g d;go_wp2_with (at_mapUpdate;refine iI _ rfl _ _ _ 109 rfl 4 K3 underlying109 w k _ rfl b.o ?c1 x P (.bool true) rfl rfl ?_);(case c1=>unfold m_;omega);intro ar l o;rw[om,<-G_ F.o]at l;have T:=O l;have W:=sG z o (λk e=>by cases e;exact gH _);clear l o;go_wp2;go_roundw;exact⟨k+1,U,R,T,W⟩;exact M);·(obtain rfl:k=l_ a:=by omega);have ai:Hid (h_ wr K3 w (l_ a) (qh K.S a 0 [])):=O (by have:=b.o;rw[jy]at this;rwa[Tt]);clear b t J;have a0:N wr K.a 0 (.slice A (l_ K.S) c):=(z.cell ah).trans (I.o.cell 0);obtain⟨V,rfl⟩:∃V:W_,V=wr:=⟨_,rfl⟩;go_wp2;go_loopw [28] (λi wr=>∃k:Nat,k<=l_ K.S/\i=.int .i64 k/\Hid (h_ wr K3 w (l_ a) (qh K.S a k []))/\G w wr) (λi _=>l_ K.S-(intOf i).toNat);exact⟨0,gZ _,rfl,ai,z⟩;clear ai z a0;obtain⟨k,J,rfl,b,z⟩:=hrel;by_cases t:k<l_ K.S;(.obtain⟨D,E,rfl,L,an⟩:=ao U;have⟨s,n⟩:=get_some t;have⟨u,ad,q⟩:=an k s n;obtain⟨au,av,rfl⟩:=SI.slice_form q;have Q:=(z.cell (p:=a_ K.hb k) (zK w (a_ K.hb k) (C.Gp n))).trans (C.Gp n);have aw:=(z.cell (p:=a_ D (E+k)) L).trans ad;have a2:N wr K.a 2 K.hv:=(z.cell ah).trans (I.o.cell 2);have⟨_,_,aj,_,_,aD⟩:=q.form;(obtain⟨rfl,rfl⟩:_=au/\_=av:=by injection aj with ax aK ay;exact⟨ax.symm,ay.symm⟩);have az:=q.jH;unfold m_ at az;(have aE:∀x∈s,qD x:=λx d=>(B.vC (bz_.2 ⟨s,gV n,d⟩)).1);clear an q aj ad;have q1:0<=(k:Int):=U;have q2:(k:Int)<l_ K.S:=U;by_cases g:cnt a s=1;(·(have ae:((cnt a s:Int) !=1)=false:=by simp[g]);(have aF:(cnt a s !=1)=false:=by simp[g]);have X:=O g;have ak:Hid (h_ wr K3 w (l_ a) (qh K.S a k (s.take 0))):=b;clear g b;obtain⟨af,rfl⟩:∃af:W_,af=wr:=⟨_,rfl⟩;go_wp2;go_loopw [43] (λi wr=>∃j:Nat,j<=l_ s/\i=.int .i64 j/\Hid (h_ wr K3 w (l_ a) (qh K.S a k (s.take j)))/\G w wr) (λi _=>l_ s-(intOf i).toNat);exact⟨0,gZ _,rfl,ak,z⟩;clear ak z Q aw a2;obtain⟨j,aL,rfl,b,z⟩:=hrel;by_cases aG:j<l_ s;(.obtain⟨b2,aA,rfl,aH,al⟩:=aD U;have⟨x,d⟩:=get_some aG;have aM:=(z.cell (p:=a_ b2 (aA+j)) aH).trans (al j x d);have P:=(aE x (gV d));have F:=O (G_ d);clear al d;go_wp2_with (at_delete;refine Sv _ rfl _ _ 109 rfl 4 K3 underlying109 w (l_ a) _ rfl b.o x P rfl ?_);intro ar l o;rw[Xa,<-F.o]at l;have T:=O l;have W:=sG z o (λk e=>by cases e;exact gH _);clear l o;go_wp2;go_roundw;exact⟨j+1,U,R,T,W⟩;exact M);·(obtain rfl:j=l_ s:=by omega);go_wp2;go_roundw;exact⟨k+1,U,R,O (by have:=b.o;rwa[jy,Tw n X.o]at this),z⟩;exact M);·(have ae:((cnt a s:Int) !=1)=true:=by simp;omega);have X:=O g;clear g;go_wp2;go_roundw;exact⟨k+1,U,R,O (by have:=b.o;rwa[Tv n X.o]at this),z⟩;exact M);·(obtain rfl:k=l_ K.S:=by omega);have⟨m,aQ,Z,aO⟩:=b.o.len underlying109 3;have y:m=0↔Gq K.S a:=Z.trans (Tx K.S a hw);by_cases r:m=0;(.have H:jS (Gq K.S a)=true:=(fQ (y.1 r));subst r;clear y Z;go_wp2;go_ret;exact⟨fP (by rw[H]),z⟩);.have H:jS (Gq K.S a)=false:=(fF λh=>r (y.2 h));have ae:((m:Int)==0)=false:=Mw.2 U;have aF:(m==0)=false:=Mw.2 r;clear y Z;go_wp2;go_ret;exact⟨fP (by rw[H]),z⟩
def xI(S:H_)(N:I_)(n:Int)(t:I_):I_:=(List.range (l_ S)).map λi=>(cnt N (S.getD i []):Int)+if(i:Int)∈t then n else 0
theorem Ba{S:H_}(h:S[i]?=some s):S.getD i []=s:=by grind
theorem C9(S:H_)(N:I_)(n:Int):xI S N n []=wG S N:=by unfold xI wG;apply cf_;grind
theorem oo{S:H_}{N:I_}{n:Int}{t:I_}(a:S[i]?=some s):(xI S N n t)[i]?=some ((cnt N s:Int)+if(i:Int)∈t then n else 0):=by unfold xI;grind
def pJ(S:H_)(N:I_)(n:Int)(t:I_):l_ (xI S N n t)=l_ S:=by simp[xI]
theorem Xb{S:H_}{N:I_}{n:Int}{t:I_}(c:S[i]?=some s)(_:(i:Int)∉t):(xI S N n t).set i ((cnt N s:Int)+n)=xI S N n (t++[(i:Int)]):=by apply cf_;intro j;rw[List.getElem?_set];rcases Ke j (l_ S) with h|h;(.have⟨r,a⟩:=get_some h;by_cases d:i=j;(.subst d;rw[c]at a;injection a with a;subst a;rw[P_ rfl,pJ,P_ h,oo c,P_ S_]);.rw[C_ d,oo a,oo a];grind);·(have f:¬i=j:=λe=>by grind);rw[C_ f,Wz (by rw[pJ];grind),Wz (by rw[pJ];grind)]
theorem Pz(n s:I_)(x:Int):cnt (n++[x]) s=cnt n s+if x∈s then 1 else 0:=by unfold cnt;grind
def ZL(n s:I_):cnt n s<=l_ n:=OA _ _
theorem Bb{S:H_}(a:S[i]?=some s):(i:Int)∈idxs S x↔x∈s:=by unfold idxs;grind
def PD{S:H_}{v:Int}(h:(idxs S x)[j]?=some v):∃i:Nat,v=i/\i<l_ S/\v∉(idxs S x).take j:=by have c:=gV h;unfold idxs at c;obtain⟨i,hi,rfl⟩:=pq.1 c;refine⟨i,rfl,cn_.1 (y5.1 hi).1,λd=>?_⟩;(have l:(idxs S x).Nodup:=by unfold idxs;refine List.Pairwise.map _ (λa b (n:a≠b)=>?_) (cp_ _ List.nodup_range);omega);have⟨k,f,e⟩:=ad_ d;rw[wE]at f;have⟨m,g⟩:=jv.1 h;rw[ag_]at e;have:=(cq_ l).1 (e.trans g.symm);omega
theorem PE(S:H_)(x:Int):l_ (idxs S x)<=l_ S:=by unfold idxs;grind
theorem ZM(S:H_)(n:I_)(x:Int):xI S n 1 (idxs S x)=wG S (n++[x]):=by rw[<-C9 S (n++[x]) 0];apply cf_;intro i;rcases Ke i (l_ S) with h|h;(.have⟨s,a⟩:=get_some h;rw[oo a,oo a,Pz];by_cases b:x∈s;(.rw[P_ ((Bb a).2 b),P_ b];simp);.rw[C_ (λh=>b ((Bb a).1 h)),C_ b];simp);.rw[Wz (by rw[pJ];grind),Wz (by rw[pJ];grind)]
theorem Tz(S:H_)(n:I_)(x:Int):xI S (n++[x]) (-1) (idxs S x)=wG S n:=by rw[<-C9 S n 0];apply cf_;intro i;rcases Ke i (l_ S) with h|h;(.have⟨s,a⟩:=get_some h;rw[oo a,oo a,Pz];by_cases b:x∈s;(.rw[P_ ((Bb a).2 b),P_ b];grind);.rw[C_ (λh=>b ((Bb a).1 h)),C_ b];simp);.rw[Wz (by rw[pJ];grind),Wz (by rw[pJ];grind)]
section
variable{K:FK}{w w':W_}
def fI(w:W_)(p:Addr)(u:V_)(h:k≠p.block):(w.setCell p u).heap[k]?=w.heap[k]? :=Fg w p u k h
def size_set(w:W_)(p:Addr)(u:V_):(w.setCell p u).heap.size=w:=by simp[World.setCell]
theorem uF.PG(h:uF K w)(i:Nat)(u:V_):uF K (w.setCell (a_ K.hb i) u):=h.keep (by rw[size_set];grind) λk _ _ _ a _=>fI w _ u a
theorem uF.afY(h:uF K w)(i:Nat)(u:V_):uF K (w.setCell (a_ K.a i) u):=h.keep (by rw[size_set];grind) λk _ _ b _ _=>fI w _ u b
theorem CY.PG(h:uF K w)(i:Nat)(u:V_):CY K w (w.setCell (a_ K.hb i) u):=by refine⟨rfl,rfl,rfl,by rw[size_set];exact gH _,λk _ b _=>fI w _ u (λe=>?_),.inl ?_⟩;(.have c:=h.rh.1;have d:=h.rh.2;grind);.unfold jr;rw[EH (w:=w) (a:=a_ K.a 4) (fI w _ u h.ne.1)]
theorem SI.PG{l:I_}(h:SI w u l)(b:Apart u (some K.hb))(i:Nat)(x:V_):SI (w.setCell (a_ K.hb i) x) u l:=h.block (by rw[size_set];grind) λa n c e d=>fI w _ x (λf=>b a n c e d (by rw[f]))
theorem TA(h:w.ownsRow B e 1 (.slice g (m+1) cap) (m+1) (xs++[u])):w.ownsRow B e 1 (.slice g m cap) m xs:=by have hl:=h.1;simp at hl;rcases h.2 with⟨a,_⟩|⟨b,k,j,H,hb,c,l,d,f,i⟩;(.cases a);·(obtain⟨rfl⟩:g=b:=by grind);(obtain⟨rfl⟩:cap=k:=by grind);refine⟨Q hl,.inr ⟨g,cap,j,rfl,hb,c,U,d,f,?_⟩⟩;have:=iM (List.take m) i;grind
end
def wQ(K:FK)(w:W_)(f:Int->Bool)(n:Int)(v u:V_)(x:Int)(t j N:I_)(wr:W_):Prop:=uF K wr/\f_ wr K.a 275 #[K.vs,.map (some K.mw),K.hv,.map (some K.mf),v]/\wr.ownsRow K.base 3 1 v (l_ N) (N.map iV)/\ wr.ownsRow K.base0 3 1 K.hv (l_ K.S) ((xI K.S j n t).map iV)/\h_ wr K3 K.mf (l_ K.S.flatten) (zu K.S f)/\(SI wr u (idxs K.S x)/\K.holds u)/\CY K w wr
theorem wQ.step{K:FK}{w:W_}{F:Int->Bool}{n:Int}{c u:V_}{x:Int}{t b N:I_}{wr:W_}(h:wQ K w F n c u x t b N wr){i:Nat}{s:I_}(j:K.S[i]?=some s)(hi:(i:Int)∉t):wQ K w F n c u x (t++[(i:Int)]) b N (wr.setCell (a_ K.hb i) (.int .i64 ((cnt b s:Int)+n))):=by obtain⟨a,k,f,l,m,d,o⟩:=h;(have p:∀g,c.ownBlock=some g->g≠K.hb:=λg e=>by have:=(f.lt g e).1;have:=a.rh.2;omega);refine⟨a.PG i _,k.far a.ne.1 _,iF f λg e=>fI wr _ _ (p g e),?_,m.setCell (cv_ a.ne.2.2) _,⟨d.1.PG d.2.2.2.2.1 i _,d.2⟩,o.trans (CY.PG a i _)⟩;have:=(l.stored i (.int .i64 ((cnt b s:Int)+n))).1;rw[<-Xb j hi,List.map_set];grind
section
variable{K:FK}{w wr:W_}{fr:Int->Bool}{n:Int}{nv u:V_}{x:Int}{t JF now:I_}
def wQ.cells(h:wQ K w fr n nv u x t JF now wr):N wr K.a 0 K.vs/\N wr K.a 1 (.map (some K.mw))/\N wr K.a 2 K.hv/\N wr K.a 3 (.map (some K.mf)):=⟨h.2.1.cell 0,h.2.1.cell 1,h.2.1.cell 2,h.2.1.cell 3⟩
def wQ.hit(h:wQ K w fr n nv u x t JF now wr)(b:K.S[i]?=some s)(hi:(i:Int)∉t):N wr K.hb i (V (cnt JF s:Int))/\wr.frozen? (a_ K.hb i)=false:=by obtain⟨_,_,_,a,_⟩:=h;have:=a.cells (g:=K.hb) rfl i (.int .i64 (cnt JF s:Int)) (by rw[J8,oo b,C_ hi];simp);rw[add_lit,Jc]at this;exact⟨this,a.frozenAt i⟩
def CY.drew'(h:CY K w W):CY K w W.drew:=⟨h.os,h.tape,h.output,h.size,h.same,h.now⟩
def wQ.drew(h:wQ K w fr n nv u x t JF now wr):wQ K w fr n nv u x t JF now wr.drew:=⟨h.1.keep (gH _) λ_ _ _ _ _ _=>rfl,h.2.1,h.2.2.1,h.2.2.2.1,h.2.2.2.2.1,h.2.2.2.2.2.1,h.2.2.2.2.2.2.drew'⟩
def uF.KX(h:uF K w){x:Int}(a:x∈K.S.flatten):∃u,(∀W:W_,W.heap[K.mw]?=w.heap[K.mw]? ->(Instr.lookup 273 (.map (some K.mw)) (.int .i64 x) false).run prog W=.ok u W)/\SI w u (idxs K.S x)/\K.holds u:=by have⟨c,n,d,b⟩:=h.wth;refine⟨c x,λW e=>?_,(b x a).1,(b x a).2⟩;have:=(d.block e).look underlying273 (zeroValue31 W) (h.vC a).1;unfold ZK at this;rwa[P_ a]at this
def wQ.start(b:uF K wr)(hb:f_ wr K.a 275 #[K.vs,.map (some K.mw),K.hv,.map (some K.mf),nv])(c:wr.ownsRow K.base 3 1 nv (l_ now) (now.map iV))(d:wr.ownsRow K.base0 3 1 K.hv (l_ K.S) ((wG K.S JF).map iV))(h:h_ wr K3 K.mf (l_ K.S.flatten) (zu K.S fr))(e:SI wr u (idxs K.S x)/\K.holds u)(f:CY K w wr):wQ K w fr n nv u x [] JF now wr:=⟨b,hb,c,by rwa[C9],h,e,f⟩
end
def PI(K:FK)(w:W_)(n:I_)(f:Int->Bool)(e:E_)(w':W_):Prop:=e=.returned (.tuple #[])/\Fam K w' n f/\CY K w w'
def aea(K:FK)(w:W_)(p:I_)(J:Int->Bool)(x:Int)(h:Fam K w p J)(au:x∈K.S.flatten)(H:l_ p<=100000):z 249 #[K.p,x,V 1] w (PI K w (p++[x]) J):=by obtain⟨f,I⟩:=h;obtain⟨av,ag,ap,aa⟩:=I.jr;obtain⟨L,P,aF⟩:=n_ aa;obtain⟨u,aG,ah,ai⟩:=f.KX au;have a4:N w K.a 4 av:=ap.cell 4;have a8:=f.few.1;have aH:=(PE K.S x);have E:=(And.intro ah ai);clear ah ai;obtain⟨i0,hi,aI,aJ,aK⟩:=qw info3;subst aF;go_in;go_wp2_with (at_builtin;refine wpList_append_own_at _ rfl _ _ 31 rfl K.base 3 i0 (.int .i64 0) 1 8 underlying31 hi aI aJ aK rfl D _ _ _ rfl (aa.alloc _) w 1 1 [.int .i64 x] rfl rfl ?c1 ?c2 ?c3 ?c4 ?c5 ?_);(case c1=>exact new1 _ _ rfl _ _);(case c2=>intro y aw;rw[gW.1 aw];rfl);(case c3=>simp only[m_];omega);(case c4=>omega);(case c5=>have:=f.rng.2;simp;omega);intro d b F r _ q;obtain⟨ac,c1,aL⟩:=n_ F;(have ab:∀k,k<w.heap.size->some k≠(Value.slice L (l_ p) P).ownBlock->b.heap[k]?=w.heap[k]? :=λk l X=>(r.block k (by simp;omega) X).trans (OH w _ k l));(have aq:∀k,k<K.base->some k≠(Value.slice L (l_ p) P).ownBlock:=λk l e=>by have:=(aa.lt k e.symm).1;omega);(have aM:w.heap.size+1<=b.heap.size:=by have:=r.size;simpa using this);(have m:∀k,k<K.base->b.heap[k]?=w.heap[k]? :=λk l=>ab k (qO l f.rng.2) (aq k l));have G:f_ b K.a 275 #[K.vs,.map (some K.mw),K.hv,.map (some K.mf),.slice L (l_ p) P]:=ap.block (m _ f.ra.2);(have aj:uF K b:=f.keep U λk _ o _ _ _=>m k o);have ax:=G.cell 4;have ay:=G.frozen 4;have az:N b K.a 1 (.map (some K.mw)):=G.cell 1;(have ak:wQ K w J 1 d u x [] p (p++[x]) (b.setCell (a_ K.a 4) d):=by(have aV:∀g,d.ownBlock=some g->g≠K.a:=λg t=>by have:=(F.lt g t).1;have:=f.ra.2;omega);refine wQ.start (aj.afY 4 d) ?_ ?_ ?_ ?_ ?_ ?_;(.have:=G.iK 4 d;simpa using this);(.have aN:b.ownsRow K.base 3 1 d (l_ (p++[x])) ((p++[x]).map iV):=Q F;exact iF aN λg t=>fI b _ d (aV g t));(·(refine iF I.hits λg t=>?_);cases t;exact(fI b _ d (cv_ f.ne.1)).trans (m _ f.rh.2));(.exact I.free.block ((fI b _ d (cv_ f.ne.2.1)).trans (m _ f.rf.2)));(.refine⟨E.1.block (by rw[size_set];omega) λa n c e H=>?_,E.2⟩;obtain⟨_,o,A,_⟩:=E.2;exact(fI b _ d (λaA=>A a n c e H (by rw[aA]))).trans (m _ (o a n c e H)));·(have aO:jr K (b.setCell (a_ K.a 4) d)=d.ownBlock:=by unfold jr;(have aP:f_ (b.setCell (a_ K.a 4) d) K.a 275 #[K.vs,.map (some K.mw),K.hv,.map (some K.mf),d]:=by have:=G.iK 4 d;simpa using this);rw[aP.cell 4];rfl);refine⟨r.os,r.tape,r.output,by rw[size_set];omega,λk l aW X=>?_,?_⟩;(·(have aQ:k≠K.a:=λe=>by have C:=f.ra;omega);exact(fI b _ d aQ).trans (ab k l (by rwa[<-ag])));.rw[aO,ag];rcases q with q|q;(.exact .inl q);.exact .inr ⟨_,S,q⟩);have al:=O ak;subst aL;(have am:∀W:W_,W=b.setCell (a_ K.a 4) (.slice ac (l_ p+1) c1)->(Instr.lookup 273 (.map (some K.mw)) (.int .i64 x) false).run prog W=.ok u W:=λW aB=>by subst aB;exact aG _ ((fI b _ _ f.rw_.2.1).trans (m _ f.rw_.1.2)));have aR:=am _ rfl;obtain⟨ad,ae,rfl⟩:=SI.slice_form E.1;clear ak am F r q ab aq m G aj aM a4;go_wp2;go_loopw [41] (λi wr=>∃j:Nat,j<=l_ (idxs K.S x)/\i=.int .i64 j/\Hid (wQ K w J 1 (.slice ac (l_ p+1) c1) (.slice ad (l_ (idxs K.S x)) ae) x ((idxs K.S x).take j) p (p++[x]) wr)) (λi _=>l_ (idxs K.S x)-(intOf i).toNat);exact⟨0,gZ _,rfl,al⟩;clear ax ay az aR al;obtain⟨j,aX,rfl,B⟩:=hrel;have a5:=aH;by_cases aS:j<l_ (idxs K.S x);(.obtain⟨v,Y⟩:=get_some aS;obtain⟨i,rfl,aT,Z⟩:=PD Y;obtain⟨s,T⟩:=get_some aT;obtain⟨_,_,an,_,_,ao⟩:=B.o.2.2.2.2.2.1.1.form;(obtain⟨rfl,rfl⟩:_=ad/\_=ae:=by injection an with C o A;exact⟨C.symm,A.symm⟩);obtain⟨G,aY,rfl,a6,ar⟩:=ao U;have aZ:=ar j _ Y;obtain⟨_,_,a0,_⟩:=B.o.cells;obtain⟨a1,a2⟩:=B.o.hit T Z;have a7:=ZL p s;have aC:=(G_ Y);have aU:=(B.o.step T Z);have q1:0<=(i:Int):=U;have q2:(i:Int)<l_ K.S:=U;clear ar an ao Y Z T;go_wp2;go_roundw;exact⟨j+1,U,R,O (by rwa[aC])⟩;exact M);·(obtain rfl:j=l_ (idxs K.S x):=by omega);go_wp2;go_end0;obtain⟨C,o,A,af,aD,a3,aE⟩:=B.o;rw[jy,ZM]at af;exact⟨rfl,⟨C,⟨⟨_,o,A⟩,af,aD⟩⟩,aE⟩
def zI':∀W,(sizeOf (prog.elem 31)).run prog W=.ok 1 W:=λW=>by rw[show prog.elem 31=3 from by kernel_rfl];exact sizeOf3 W
def uI':prog.underlying 31=some (.slice (prog.elem 31)):=k_
def Gr(K:FK)(w:W_)(p:I_)(G:Int->Bool)(x:Int)(h:Fam K w (p++[x]) G)(ai:x∈K.S.flatten)(L:l_ p<=100000):z 249 #[K.p,x,V (-1)] w (PI K w p G):=by obtain⟨f,C⟩:=h;obtain⟨P,ar,r,ae⟩:=C.jr;have ag:w.ownsRow K.base 3 1 P (l_ p+1) (p.map iV++[iV x]):=Q ae;(obtain⟨g,d,au,aU⟩:∃g d,P=.slice (a_ g 0) (l_ p+1) d/\l_ p+1<=d:=by rcases ag.2 with⟨_,aK⟩|⟨g,cap,_,D,_,_,av,_⟩;(.omega);.exact⟨g,cap,D,av⟩);subst au;have af:=TA ag;obtain⟨u,aw,J,S⟩:=f.KX ai;have a4:N w K.a 4 (.slice g (l_ p+1) d):=r.cell 4;have aj:w.frozen? (a_ K.a 4)=false:=r.frozen 4;(have aI:∀W,(Instr.slice 31 (.slice g (l_ p+1) d) none (some (.int .i64 (l_ p))) none).run prog W=.ok (.slice g (l_ p) d) W:=λW=>by rw[run_slice_h W 31 _ _ _ uI' .i64 (l_ p) U U,zI'];simp[Result.andThen,sliced,Addr.add]);(have ak:IntKind.i64.wrap (((l_ p+1:Nat):Int)-1)=(l_ p:Int):=by rw[WA _ U];omega);have aV:=f.few.1;have ax:=(PE K.S x);have y:=(And.intro J S);clear ae J S;obtain⟨b,A⟩:∃b,b=Value.slice g (l_ p) d:=⟨_,rfl⟩;(have ay:wQ K w G (-1) b u x [] (p++[x]) p (w.setCell (a_ K.a 4) b):=by(have aJ:∀k,b.ownBlock=some k->k≠K.a:=λk l=>by rw[A]at l;have:=(af.lt k l).1;have:=f.ra.2;omega);refine wQ.start (f.afY 4 b) ?_ ?_ ?_ ?_ ?_ ?_;(.have:=r.iK 4 b;simpa using this);(.refine iF (by rw[A];simpa using af) λk l=>fI w _ b (aJ k l));(·(refine iF C.hits λk l=>?_);cases l;exact fI w _ b (cv_ f.ne.1));(.exact C.free.block (fI w _ b (cv_ f.ne.2.1)));(.refine⟨y.1.block (by rw[size_set];exact gH _) λa n c e L=>?_,y.2⟩;obtain⟨_,E,m,_⟩:=y.2;exact fI w _ b (λal=>m a n c e L (by rw[al])));·(have az:jr K (w.setCell (a_ K.a 4) b)=b.ownBlock:=by unfold jr;(have B:f_ (w.setCell (a_ K.a 4) b) K.a 275 #[K.vs,.map (some K.mw),K.hv,.map (some K.mf),b]:=by have:=r.iK 4 b;simpa using this);rw[B.cell 4];rfl);refine⟨rfl,rfl,rfl,by rw[size_set];exact gH _,λk l aL _=>?_,.inl ?_⟩;(·(have aA:k≠K.a:=λe=>by have t:=f.ra;omega);exact fI w _ b aA);.rw[az,ar,A];rfl);(have aB:∀(W:W_)(q:Nat),W=(w.setCell (a_ K.a 4) b).drewN q->(Instr.lookup 273 (.map (some K.mw)) (.int .i64 x) false).run prog W=.ok u W:=λW q am=>by subst am;exact aw _ (fI w _ _ f.rw_.2.1));subst A;obtain⟨T,X,rfl⟩:=SI.slice_form y.1;go_in;go_wp2_with fail;have aC:IntKind.i64.wrap (l_ p:Int)=(l_ p:Int):=WA _ U;(have H:f_ (w.setCell (a_ K.a 4) (.slice g (l_ p) d)) K.a 275 #[K.vs,.map (some K.mw),K.hv,.map (some K.mf),.slice g (l_ p) d]:=by have:=r.iK 4 (.slice g (l_ p) d);simpa using this);have B:f_ (w.setCell (a_ K.a 4) (.slice g (l_ p) d)).drew K.a 275 #[K.vs,.map (some K.mw),K.hv,.map (some K.mf),.slice g (l_ p) d]:=H;have an:N (w.setCell (a_ K.a 4) (.slice g (l_ p) d)).drew K.a 1 (.map (some K.mw)):=B.cell 1;have aD:(Instr.lookup 273 (.map (some K.mw)) (.int .i64 x) false).run prog (w.setCell (a_ K.a 4) (.slice g (l_ p) d)).drew=.ok _ _:=aB _ 1 rfl;clear B H;go_still_tail 14,k_;clear ak aC;go_upto_region 3 with(fail);clear a4 aj aI;go_wp2;go_loopw [41] (λi wr=>∃j:Nat,j<=l_ (idxs K.S x)/\i=.int .i64 j/\Hid (wQ K w G (-1) (.slice g (l_ p) d) (.slice T (l_ (idxs K.S x)) X) x ((idxs K.S x).take j) (p++[x]) p wr)) (λi _=>l_ (idxs K.S x)-(intOf i).toNat);exact⟨0,gZ _,rfl,O ay.drew⟩;clear an aD;obtain⟨j,aM,rfl,o⟩:=hrel;have aT:=ax;by_cases aE:j<l_ (idxs K.S x);(.obtain⟨v,D⟩:=get_some aE;obtain⟨i,rfl,aF,I⟩:=PD D;obtain⟨s,F⟩:=get_some aF;obtain⟨_,_,Y,_,_,ad⟩:=o.o.2.2.2.2.2.1.1.form;(obtain⟨rfl,rfl⟩:_=T/\_=X:=by injection Y with t E m;exact⟨t.symm,m.symm⟩);obtain⟨b1,aN,rfl,H,ah⟩:=ad U;have aO:=ah j _ D;obtain⟨_,_,aP,_⟩:=o.o.cells;obtain⟨aQ,aR⟩:=o.o.hit F I;have aG:=ZL (p++[x]) s;rw[ny,wT]at aG;have ao:=(G_ D);have aH:=(o.o.step F I);have q1:0<=(i:Int):=U;have q2:(i:Int)<l_ K.S:=U;clear ah Y ad D I F;go_wp2;go_roundw;exact⟨j+1,U,R,O (by rwa[ao])⟩;exact M);·(obtain rfl:j=l_ (idxs K.S x):=by omega);go_wp2;go_end0;obtain⟨t,E,m,Z,ap,aS,aq⟩:=o.o;rw[jy,Tz]at Z;exact⟨rfl,⟨t,⟨⟨_,E,m⟩,Z,ap⟩⟩,aq⟩
section
attribute [local go_sem] ba_
def sP(b:Nat)(W w:W_):Prop:=w.heap[b]?=W.heap[b]?
def sP.cell{c:W_}(h:sP b W c)(o:Nat):c.cell? (a_ b o)=W.cell? (a_ b o):=EH (w:=W) (a:=a_ b o) h
def sP.trans{B:W_}(h:sP b A B)(k:sP b B C):sP b A C:=Eq.trans k h
def acv{b:Nat}{w:W_}(hb:b<w)(W:W_)(l:Nat)(o a:Obj)(hl:w<=l)(_:W.heap[l]?=some o)(_:o.isCells=false)(_:o.isWalk=false):sP b W (W.putObj l a):=World.putObj_heap_other U
def sP.of_below{a:W_}(h:Below B W a)(hb:b<B):sP b W a:=h.block b hb
def acw(g:Nat)(lb:A_)(b:Nat)(l:I_)(w:W_):Prop:=∀n,1<=n->SeqStopsK Fence.wide n prog g lb (λx:Int=> #[iV x]) (sP b) (λy=>y=l) (λpre=>pre<+:l) (l_ l) w
def Gs(n:Nat)(F:1<=n)(D j b:Nat)(A:J_)(c:Nat)(l:I_)(d m:I_->W_->Prop)(W:W_)(r:∀pre x W,d pre W->l_ pre<l_ l->YieldAt Fence.wide (n-1) prog D #[iV x] W λe a=>
  (e=.returned true/\d (pre++[x]) a/\sP b W a)\/(e=.returned false/\m (pre++[x]) a))
 (P:N W j 0 (.slice A (l_ l) c)) (J:l_ l<=c) (s:c<=m_) (t:0<l_ l->∃f,A=some ⟨b,f,none⟩/\∀i x,l[i]?=some x->N W b (f+i) (iV x)) (u:d [] W):
 CallsIn Fence.wide n prog 290 #[.func (.yield D) #[] #[],.pointer j] W λe a=>(∃v,e=.returned v)/\ ((∃o,o=l/\d o a)\/(∃pre,pre<+:l/\m pre a)):=by
 unfold m_ at s;refine callsIn_of_wp func290 rfl trivial ?_ rfl;simp only[ntmps290,bc_,p8,Mv,Nat.reduceAdd,Nat.reduceSub,bg_,bh_,bi_,bj_,Y8,Ka];gi_wp2
 gi_loopw [7] (λi wr=>∃k:Nat,k<=l_ l/\i=.int .i64 k/\d (l.take k) wr/\sP b W wr)
  (λi _=>l_ l-(intOf i).toNat)
 exact⟨0,gZ _,rfl,u,rfl⟩;obtain⟨k,H,rfl,g,z⟩:=hrel;by_cases y:k<l_ l;(.obtain⟨f,rfl,q⟩:=t U;obtain⟨x,h⟩:=get_some y;have G:N wr b (f+k) x:=(z.cell _).trans (q k x h);have w:=(G_ h);obtain⟨I,T,assign,body,K,p⟩:=r _ x _ g (by rw[wE];omega);rw[<-w]at p;clear q h g;gi_wp2;refine p.mono ?_;rintro e L (⟨rfl,B,C⟩|⟨rfl,E⟩);(·gi_wp2;go_roundw;exact⟨k+1,U,S,B,z.trans C⟩;exact M);·gi_wp2;refine rY (results_none rfl _ _ _) rfl ?_;exact⟨⟨_,rfl⟩,.inr ⟨_,List.take_prefix _ _,E⟩⟩);·(obtain rfl:k=l_ l:=by omega);rw[jy]at g;gi_wp2;go_end0;exact⟨⟨_,rfl⟩,.inl ⟨_,rfl,g⟩⟩
def TD(a:Nat)(v:V_)(l:I_)(w:W_)(q:N w a 0 v)(m:a<w)(y:SI w v l):∃b,b<w.heap.size/\acw 290 #[.pointer a] b l w:=by obtain⟨A,c,rfl,H,o,s⟩:=y.form;by_cases d:0<l_ l;(.obtain⟨b,r,rfl,hb,u⟩:=s d;exact⟨b,hb,λn g L f j W e _ _ k d=>Gs n g L a b _ c l f j W k ((e.cell m).trans q) H o (λ_=>⟨r,rfl,λi x hi=>(e.cell (p:=a_ b (r+i)) hb).trans (u i x hi)⟩) d⟩);.exact⟨a,m,λn g L f j W e _ _ k t=>Gs n g L a a A c l f j W k ((e.cell m).trans q) H o (λh=>absurd h d) t⟩
def TF(A:J_)(n c:Nat)(w:W_):z 248 #[.slice A n c] w λe w'=>e=.returned (.func (.func 290) #[] #[.pointer w])/\w'=w.alloc (.cells #[.slice A n c] 31):=by go_in;go_wp2;go_ret;exact⟨rfl,rfl⟩
def JG(g:Nat)(lb:A_)(b:Nat)(l:I_)(w:W_)(p:∀args w,(callFunc g args).run prog w=.ok (.enter g args) w)(m:acw g lb b l w)(hb:b<w)(af:l_ l<=1000000):z 199 #[(),.func (.func g) #[] lb] w (ZH w l):=by
 refine(yY (n:=3)).1 ?_;obtain⟨O,hi,B,C,E⟩:=qw info3;have L:=m 2 U;clear m;refine callsIn_of_wp_marks func199 rfl trivial ?_ rfl;simp only[ntmps199,bc_,p8,Mv,Nat.reduceAdd,Nat.reduceSub,bg_,bh_,bi_,bj_,Y8,Ka];gi_wp2;have q:=Boxed.new w 31 ();have f:G w (L_ w 31 #[()]):=(fu _ w).alloc (gH _) _
 refine wpIn_rangeFunc_ownH rfl U (gf:=g) (lb:=lb) rfl trivial p L (λh k=>sP.trans h k) (acv (by simp;omega)) f (λ_=>rfl)
  (λpre W=>(∃v,Boxed W w 31 v/\W.ownsRow w 3 1 v (l_ pre) (pre.map iV)/\True)/\G w W)
  (λ_ _ _=>False)
  (OwnFrom.and (Own.from (holdsRow_own w w 31 3 1 (λpre:I_=>l_ pre) (λpre=>pre.map iV) (λ_ _=>True)) _) (ownFrom_below (gH _) S))
  (λ_ _ _ _ _ r _ _=>r)
  ⟨⟨_,q,Ce _ _ _ _,trivial⟩,f⟩
  (λx e _=>e={tmps:= #[(),.func (.func g) #[] lb,.pointer w,undef,(),iV x,.func (.func g) #[] lb,iV x,undef,undef,undef,undef,undef],defers:=[]})
  ?hAx ?assign ?body ?done ?stop
 (case hAx=>rintro x e _ W T row s X t;exact s);(case assign=>rintro R pre x W K ⟨⟨v,M,a,_⟩,J⟩ d;gi_wp2;exact d _ _ (KeepsFrom.refl _ _) rfl ⟨⟨v,M,a,trivial⟩,J⟩ rfl);(case body=>rintro R pre x e W hl t ⟨⟨v,M,a,_⟩,J⟩ rfl ac;have N:=M.cell;gi_wp2_with (gi_at_builtin;refine wpListIn_append_own _ rfl _ _ 31 rfl w 3 O (.int .i64 0) 1 8 underlying31 hi B C E rfl D_ _ _ _ rfl (a.alloc _) W 1 1 [iV x] rfl rfl ?c1 ?c2 ?c3 ?c4 ?c5 ?_);(case c1=>exact new1 _ _ rfl _ _);(case c2=>intro y u;rw[gW.1 u];rfl);(case c3=>simp only[m_];omega);(case c4=>omega);(case c5=>have:=J.size;simp;omega);intro v' Z o P _;obtain⟨V,ag,rfl⟩:=ownsRow_succ o;obtain⟨i,F,H,I,j⟩:=M.appended D_ a J.size (gH _) o P;have ad:=i.cell;have ae:=i.frozen;gi_wp2;exact⟨I.from _,sP.of_below j hb,⟨_,F,Q H,trivial⟩,J.trans j⟩);(case done=>rintro D Y W A rfl ⟨⟨v,M,a,_⟩,J⟩ d;have N:=M.cell;gi_wp2;refine⟨S,.inl ⟨_,_,rfl,run_takeDeferred d,?_⟩⟩;refine⟨_,bp_ rfl _ _ _,v,rfl,ownsRow_putObj a (Obj.deferred none) d rfl,?_⟩;exact J.trans (belowK_b (w:=w) (gH _) W D _ _ (by simp at A;omega) d rfl rfl));case stop=>rintro D c pre W _ _ h _;exact h.elim
def PK(g:Nat)(lb:A_)(b:Nat)(l:I_)(w:W_)(a:∀args w,(callFunc g args).run prog w=.ok (.enter g args) w)(c:acw g lb b l w)(hb:b<w)(d:l_ l<=1000000):z 133 #[.func (.func g) #[] lb] w (ZH w l):=by have H:=(JG g lb b l w a c hb d);clear a c;go_in;go_wp2_with (go_at_call 199;refine H.mono ?_;rintro e w' ⟨v,rfl,f,h⟩);go_ret;exact⟨v,rfl,f,h⟩
noncomputable def nM (l:I_):I_:=l.mergeSort λx y=>decide (x<=y)
def Xd(base:Nat)(v:V_)(l:I_)(w:W_)(h:w.ownsRow base 3 1 v (l_ l) (l.map iV))(q:l_ l<=1000000):z 134 #[v] w λe w'=>e=.returned (.tuple #[])/\w'.ownsRow base 3 1 v (l_ (nM l)) ((nM l).map iV)/\w.grownBy w' v.ownBlock:=by rcases h.2 with⟨rfl,b⟩|⟨g,cap,p,rfl,hb,c,j,k,m,o⟩;(.have:l=[]:=Jg b;subst this;refine(Tryz.slices_Sort_int_none none 0 w).mono ?_;rintro e w' ⟨rfl,rfl⟩;exact⟨rfl,by simpa[nM]using h,R8 _ _⟩);.have d:g<w:=(yZ.1 c).1;refine(Tryz.slices_Sort_int g 0 cap l w (l5 h) d U).mono ?_;rintro e w' ⟨rfl,n,os,rfl⟩;(have f:(nM l).toArray.size=l_ l:=by simp[nM,bt_]);obtain⟨a,i⟩:=mX (d':=(nM l).toArray) f h n os;exact⟨rfl,by simp at a;exact a,i⟩
def PL(g:Nat)(lb:A_)(b:Nat)(l:I_)(w:W_)(a:∀args w,(callFunc g args).run prog w=.ok (.enter g args) w)(c:acw g lb b l w)(hb:b<w)(d:l_ l<=1000000):z 83 #[.func (.func g) #[] lb] w (ZH w (nM l)):=by have H:=(PK g lb b l w a c hb d);clear a c;go_in;go_wp2_with (go_at_call 133;refine H.mono ?_;rintro e w' ⟨v,rfl,f,B⟩);go_wp2_with (go_at_call 134;refine(Xd _ _ l _ f d).mono ?_;rintro e j ⟨rfl,i,h⟩);go_ret;exact⟨v,rfl,i,B.grown h B.size λk e=>(f.lt k e).1⟩
end
def pairs(S:H_)(k:Nat):List (Nat×Int):=(List.range k).flatMap λi=>(S.getD i []).map λx=>(i,x)
def jo(S:H_)(k j:Nat):List (Nat×Int):=pairs S k++((S.getD k []).take j).map λx=>(k,x)
def rG(D:List (Nat×Int))(x:Int):I_:=(D.filter λp=>decide (p.2=x)).map λp=>(p.1:Int)
def vD(S:H_)(k:Nat):pairs S (k+1)=pairs S k++(S.getD k []).map λx=>(k,x):=by unfold pairs;rw[dl_,Zb];simp
def M5(S:H_)(k:Nat):jo S k 0=pairs S k:=by simp[jo]
def M6{S:H_}(h:S[k]?=some s):jo S k (l_ s)=pairs S (k+1):=by unfold jo;rw[vD,Ba h,jy]
def M7{S:H_}(h:S[k]?=some s)(a:s[j]?=some x):jo S k (j+1)=jo S k j++[(k,x)]:=by unfold jo;rw[Ba h,G_ a,wO,Kg];rfl
theorem Xe(D:List (Nat×Int))(i:Nat)(x y:Int):rG (D++[(i,x)]) y=if y=x then rG D y++[(i:Int)] else rG D y:=by unfold rG;grind
theorem vE(k:Nat)(x:Int):∀(l:I_),l.Nodup->(((l.map λy=>(k,y)).filter λp=>decide (p.2=x)).map λp=>(p.1:Int))=if x∈l then[(k:Int)] else[]
 |[],_=>rfl
 |y::l,h=>by
  have a:=dp_.1 h;rw[Zc,List.filter_cons];by_cases b:y=x;(.subst b;have:=vE k y l a.2;grind);.have:=vE k x l a.2;(have c:¬x=y:=λe=>b e.symm);simp only[b,dt_,du_,dv_,this];simp[c]
def Gt{S:H_}(H:j6 S)(x:Int):∀k≤l_ S,rG (pairs S k) x=((List.range k).filter λi=>decide (x∈S.getD i [])).map λi:Nat=>(i:Int)
 |0,_=>rfl
 |k+1,d=>by
  have b:=Gt H x k U;unfold rG at b ⊢;have⟨s,a⟩:=get_some (l:=S) (k:=k) U;have c:s.Nodup:=(H s (gV a)).2.imp (λh=>U);rw[vD,Y9,wO,b,Ba a,vE k x s c,dl_,Y9,wO];congr 1;by_cases h:x∈s<;>simp[a,h]
def ZN{S:H_}(h:j6 S)(x:Int):rG (pairs S (l_ S)) x=idxs S x:=Gt h x (l_ S) (gH _)
def yK(S:H_):∀k≤l_ S,(pairs S k).map (·.2)=(S.take k).flatten
 |0,_=>rfl
 |k+1,b=>by
  have⟨s,a⟩:=get_some (l:=S) (k:=k) U;rw[vD,wO,yK S k U,G_ a,List.flatten_append,Ba a];simp[Function.comp_def]
def KZ(S:H_)(x:Int):x∈(pairs S (l_ S)).map (·.2)↔x∈S.flatten:=by rw[yK S _ (gH _),jy]
theorem EU(S:H_)(k:Nat):l_ (S.take k).flatten<=l_ S.flatten:=by(have h:S.flatten=(S.take k).flatten++(S.drop k).flatten:=by rw[<-List.flatten_append,dw_]);grind
def Xf(S:H_)(a:k<=l_ S):l_ (pairs S k)<=l_ S.flatten:=by have:=iM l_ (yK S k a);rw[qm]at this;rw[this];exact EU S k
theorem PN{S:H_}(h:S[k]?=some s):l_ (jo S k j)<=l_ S.flatten:=by refine gY ?_ (Xf S (k:=k+1) (jv.1 h).1);rw[vD,Ba h];unfold jo;grind
theorem JH(S:H_):l_ (pairs S (l_ S))=l_ S.flatten:=by have:=iM l_ (yK S _ (gH _));grind
def uG{l:I_}(h:Valid l):l_ l<=1024:=by
 have:=lZ (a:=l) (b:=(List.range 1024).map λi:Nat=>(i:Int)) (h.2.imp (λh=>U)) (λx c=>by
  have:=h.1 x c
  refine pq.2 ⟨x.toNat,cn_.2 U,U⟩)
 simpa using this
theorem xJ:∀{L:H_},(∀l∈L,l_ l<=m)->l_ L.flatten<=l_ L*m
 |[],_=>S
 |l::L,h=>by
  have a:=h l S;(have b:=xJ (L:=L) λl hl=>h l (by grind));rw[List.flatten_cons,ny,p8,dx_];omega
def xK(D:List (Nat×Int))(w:Int->V_):Int->Option V_:=λx=>if x∈D.map (·.2) then some (w x) else none
def D9(D:List (Nat×Int)):Int->Option V_:=λx=>if x∈D.map (·.2) then some (.bool true) else none
def TG(w:Int->V_)(x:Int)(v:V_):Int->V_:=λy=>if y=x then v else w y
theorem afZ{D:List (Nat×Int)}{y:Int}(h:¬y=x):y∈(D++[(i,x)]).map (·.2)↔y∈D.map (·.2):=by grind
theorem TH(D:List (Nat×Int))(a:Int->V_)(i:Nat)(x:Int)(v:V_):upd (xK D a) x (some v)=xK (D++[(i,x)]) (TG a x v):=by funext y;unfold upd xK TG;grind
theorem TI(D:List (Nat×Int))(i:Nat)(x:Int):upd (D9 D) x (some (.bool true))=D9 (D++[(i,x)]):=by funext y;unfold upd D9;grind
structure qE(B:Nat)(wr:W_)(D:List (Nat×Int))(wv:Int->V_):Prop where
 own:∀x,wr.ownsRow B 3 1 (wv x) (l_ (rG D x)) ((rG D x).map iV)
 out:∀x,x∉D.map (·.2)->wv x=.slice none 0 0
 ne:∀x y g,x≠y->(wv x).ownBlock=some g->(wv y).ownBlock≠some g
def qE.kept{D:List (Nat×Int)}(h:qE B w D a)(c:w.grownBy w' row)(d:∀k,row=some k->k<B):qE B w' D a:=⟨λx=>iF (h.own x) λg b=>c.block g ((h.own x).lt g b).2 λe=>by have:=((h.own x).lt g b).1;have:=d g e.symm;omega,h.out,h.ne⟩
def qE.alloc{D:List (Nat×Int)}(h:qE B w D a)(o:Obj):qE B (w.alloc o) D a:=h.kept (dy_ w o none) (λ_ e=>by cases e)
theorem qE.step{B:Nat}{w w':W_}{D:List (Nat×Int)}{d:Int->V_}(h:qE B w D d){i:Nat}{x:Int}{v:V_}{n:Nat}{xs:O_}(l:n=l_ (rG D x)+1)(p:xs=(rG D x).map iV++[iV i])(m:w'.ownsRow B 3 1 v n xs)(o:w.grownBy w' (d x).ownBlock)(b:v.ownBlock=(d x).ownBlock\/v.ownBlock=some w):qE B w' (D++[(i,x)]) (TG d x v):=by subst l p;refine⟨λy=>?_,λy a=>?_,λy z g f=>?_⟩;(.rw[Xe];unfold TG;by_cases a:y=x;(.grind);.rw[C_ a,C_ a];exact iF (h.own y) λg k=>o.block g ((h.own y).lt g k).2 λe=>h.ne x y g (λc=>a c.symm) e.symm k);(.unfold TG;(have:¬y=x:=λe=>a (by simp[e]));rw[C_ this];exact h.out y λq=>a (by grind));.unfold TG;by_cases a:y=x;(.subst a;rw[P_ rfl,C_ (λe=>f e.symm)];intro e c;rcases b with b|b;(.exact h.ne y z g f (b.symm.trans e) c);.rw[b]at e;injection e with e;have:=((h.own z).lt g c).2;omega);.rw[C_ a];by_cases j:z=x;(.subst j;rw[P_ rfl];intro e c;rcases b with b|b;(.exact h.ne y z g a e (b.symm.trans c));.rw[b]at c;injection c with c;have:=((h.own y).lt g e).2;omega);.rw[C_ j];exact h.ne y z g f
structure NF(w0:W_)(vs:V_)(S:List (List Int))(D:List (Nat×Int))(wr:W_):Prop where
 low:G w0 wr
 size:w0.heap.size+4<=wr.heap.size
 blk:f_ wr (w0+1+1) 275 #[vs,.map (some w0),.slice (a_ (w0+1+1+1) 0) (l_ S) (l_ S),.map (some (w0+1)),()]
 hits:wr.ownsRow (w0+1+1+1) 3 1 (.slice (a_ (w0+1+1+1) 0) (l_ S) (l_ S)) (l_ S) ((wG S []).map iV)
 free:h_ wr K3 (w0+1) (l_ D) (D9 D)
 wth:∃wv,h_ wr K3 w0 (l_ D) (xK D wv)/\qE (w0+4) wr D wv
def NF.drew{b:W_}{v:V_}{S:H_}{D:List (Nat×Int)}{wr:W_}(h:NF b v S D wr):NF b v S D wr.drew:=by have⟨c,d,a⟩:=h.wth;exact⟨h.low.drew,h.size,h.blk,h.hits,h.free,c,d,⟨a.own,a.out,a.ne⟩⟩
theorem Xg(n:Nat)(S:H_)(a:n=l_ S):(madeCells (Value.int .i64 0).cells (n*1)).toList=(wG S []).map iV:=by subst a;apply cf_;intro i;unfold madeCells wG;rw[Nat.mul_one];rcases Ke i (l_ S) with h|h;(.obtain⟨s,d⟩:=get_some h;(have b:((Value.int .i64 0).cells)[i % ((Value.int .i64 0).cells).size]! =.int .i64 0:=by have c:i % ((Value.int .i64 0).cells).size=0:=Nat.mod_one i;rw[c];rfl);simp[h,b,cnt]);grind
def ZO(w:W_)(L:H_)(e:E_)(w':W_):Prop:=∃K:FK,e=.returned K.p/\K.base0=w/\K.base=w'/\D8 L K.S/\Fam K w' [] (λ_=>true)/\G w w'
theorem NF.fam{f wr:W_}{V:V_}{S:H_}(E:ps.map (·.2)=S)(j:kD f w V ps)(v:∀p∈ps,Gn w p.1)(D:G w f)(z:j6 S)(hl:l_ S<=900)(h:NF f V S (pairs S (l_ S)) wr):Fam ⟨f.heap.size+1+1,V,f.heap.size,f.heap.size+1+1+1,l_ S,f.heap.size+1,S,w.heap.size,wr.heap.size⟩ wr [] (λ_=>true):=by obtain⟨s,H,y,A,t,u,B,C⟩:=h;have I:=D.size;(have F:l_ S.flatten<=1000000:=by(have:=xJ (m:=1024) (L:=S) λl hl=>uG (z l hl));omega);refine⟨⟨⟨by simp only;omega,by simp only;omega⟩,⟨by simp only;omega,by simp only;omega⟩,⟨⟨by simp only;omega,by simp only;omega⟩,by simp only;omega,by simp only;omega,by simp only;omega⟩,⟨by simp only;omega,by simp only;omega⟩,⟨by simp only;omega,by simp only;omega⟩,⟨by simp only;omega,by simp only;omega,by simp only;omega⟩,⟨ps,E,iF j.1 λg q=>s.block g (j.1.lt g q).2,λg q=>?_,λp k=>⟨(j.2 p k).1.up s,v p k,?_⟩⟩,⟨u,_,B.congr λx _=>?_,λx d=>?_⟩,z,⟨by simp only;omega,F⟩⟩,⟨⟨_,y,Ce _ _ _ _⟩,?_,?_⟩⟩;(.have:=(j.1.lt g q).2;grind);(.refine⟨λa n c e b=>?_,λa n c e b=>?_,λa n c e b=>?_,λa n c e b=>?_⟩;(.have:=(j.2 p k).1.block_lt e b;grind);all_goals (have:=(j.2 p k).1.block_lt e b;intro i;injection i with i;simp only at i;omega));(.unfold xK ZK;have:=KZ S x;grind);(.have o:=C.own x;rw[ZN z]at o;(have r:∀a n c,u x=.slice (some a) n c->0<n->f.heap.size+4<=a.block/\a.block<wr:=λa n c e b=>⟨sO o (gH _) a n c e b,SI.block_lt (jg o) e b⟩);refine⟨jg o,λa n c e b=>?_,λa n c e b=>?_,λa n c e b=>?_,λa n c e b=>?_,λa n c e b=>?_⟩;(.have:=r a n c e b;simp only;omega);(.have:=r a n c e b;simp only;omega);all_goals (have:=r a n c e b;intro i;injection i with i;simp only at i;omega));(.exact jD A (by grind));.rw[JH]at t;(refine t.congr λx _=>?_);unfold D9 zu;have:=KZ S x;grind
theorem NF.start(a:W_)(v:V_)(S:H_)(hl:l_ S<=900)(l:n=l_ S):NF a v S (pairs S 0) (L_ (L_ ((a.alloc (.map #[] 0)).alloc (.map #[] 0)) 275 #[v,.map (some a),.slice (a_ (a+1+1+1) 0) (l_ S) (l_ S),.map (some (a+1)),()]) 3 (madeCells (Value.int .i64 0).cells n)):=by obtain⟨b,h⟩:∃b:A_,b= #[v,.map (some a),.slice (a_ (a+1+1+1) 0) (l_ S) (l_ S),.map (some (a+1)),()]:=⟨_,rfl⟩;have j:n=l_ S*1:=U;subst j;rw[<-h];have d:(a.alloc (.map #[] 0)).heap.size=a.heap.size+1:=S_;have f:((a.alloc (.map #[] 0)).alloc (.map #[] 0)).heap.size=a.heap.size+1+1:=S_;have c:(((a.alloc (.map #[] 0)).alloc (.map #[] 0)).alloc (.cells b 275)).heap.size=a.heap.size+1+1+1:=S_;have m:=h_.made a K3;have g:=h_.made (a.alloc (.map #[] 0)) K3;rw[d]at g;have k:=(f_.newAt ((a.alloc (.map #[] 0)).alloc (.map #[] 0)) 275 b f.symm).alloc (.cells (madeCells (Value.int .i64 0).cells (l_ S*1)) 3);have i:=dz_ (e:=3) (size:=1) (L_ ((a.alloc (.map #[] 0)).alloc (.map #[] 0)) 275 b) (madeCells (Value.int .i64 0).cells (l_ S*1)) (l_ S) (base:=a.heap.size+1+1+1) (by rw[c];exact gH _) (by simp[m_];omega) (size_madeCells _ _);rw[c,Xg _ S rfl]at i;refine⟨?_,?_,?_,i,?_,λ_=> .slice none 0 0,?_,⟨λx=>?_,λ_ _=>rfl,λ_ _ _ _ e=>by cases e⟩⟩;(.exact(((fu _ a).alloc (gH _) _).alloc (by rw[d];omega) _).alloc (by rw[f];omega) _ |>.alloc (by rw[c];omega) _);(.simp);(.grind);(.have:=(g.alloc (.cells b 275)).alloc (.cells (madeCells (Value.int .i64 0).cells (l_ S*1)) 3);exact this.congr λx _=>by simp[D9,pairs]);(.have:=((m.alloc (.map #[] 0)).alloc (.cells b 275)).alloc (.cells (madeCells (Value.int .i64 0).cells (l_ S*1)) 3);exact this.congr λx _=>by simp[xK,pairs]);.exact Ce _ _ _ _
def NF.cells{a:W_}{v:V_}{S:H_}{D:List (Nat×Int)}{wr:W_}(h:NF a v S D wr):N wr (a+1+1) 1 (.map (some a))/\N wr (a+1+1) 3 (.map (some (a+1))):=⟨h.blk.cell 1,h.blk.cell 3⟩
def qE.drew{D:List (Nat×Int)}(h:qE B w D a):qE B w.drew D a:=⟨h.own,h.out,h.ne⟩
def NF.alloc{a:W_}{v:V_}{S:H_}{D:List (Nat×Int)}{wr:W_}(h:NF a v S D wr)(o:Obj):NF a v S D (wr.alloc o):=by obtain⟨b,c,d⟩:=h.wth;exact⟨X_ h.low o,by have:=h.size;simp;omega,h.blk.alloc o,h.hits.alloc o,h.free.alloc o,b,c.alloc o,d.alloc o⟩
theorem NF.ah1{a:W_}{V:V_}{S:H_}{D:List (Nat×Int)}{f j b:W_}(h:NF a V S D f){c:Int->V_}(hw:qE (a+4) f D c){v:V_}(p:n=l_ (rG D x)+1)(s:xs=(rG D x).map iV++[iV i])(q:j.ownsRow (a+4) 3 1 v n xs)(d:f.grownBy j (c x).ownBlock)(t:v.ownBlock=(c x).ownBlock\/v.ownBlock=some f)(r:h_ b K3 a (l_ D+1) (upd (xK D c) x (some v)))(m:j.grownBy b (some a)):G a b/\a.heap.size+4<=b.heap.size/\f_ b (a+1+1) 275 #[V,.map (some a),.slice (a_ (a+1+1+1) 0) (l_ S) (l_ S),.map (some (a+1)),()]/\ b.ownsRow (a+1+1+1) 3 1 (.slice (a_ (a+1+1+1) 0) (l_ S) (l_ S)) (l_ S) ((wG S []).map iV)/\h_ b K3 (a+1) (l_ D) (D9 D)/\ ∃c,h_ b K3 a (l_ (D++[(i,x)])) (xK (D++[(i,x)]) c)/\qE (a+4) b (D++[(i,x)]) c:=by(have l:∀k,k<a.heap.size+4->k≠a.heap.size->b.heap[k]?=f.heap[k]? :=λk l u=>by have y:=h.size;have A:=d.size;refine(m.block k U (λe=>u (Ch e))).trans (d.block k U λe=>?_);have:=((hw.own x).lt k e.symm).1;omega);have o:G a j:=h.low.grown d (by have:=h.size;omega) (λk e=>by have:=((hw.own x).lt k e).1;omega);have w:G a b:=o.grown m (by have:=o.size;omega) (λk e=>by grind);refine⟨w,by have:=h.size;have:=d.size;have:=m.size;omega,h.blk.block (l _ U U),iF h.hits λg d=>?_,h.free.block (l _ U U),TG c x v,?_,(hw.step p s q d t).kept m λk e=>by injection e with e;omega⟩;(.cases d;grind);.rw[<-TH];grind
theorem NF.ah2{a:W_}{v:V_}{S:H_}{D:List (Nat×Int)}{b d:W_}(j:G a b)(s:a.heap.size+4<=b.heap.size)(l:f_ b (a+1+1) 275 #[v,.map (some a),.slice (a_ (a+1+1+1) 0) (l_ S) (l_ S),.map (some (a+1)),()])(m:b.ownsRow (a+1+1+1) 3 1 (.slice (a_ (a+1+1+1) 0) (l_ S) (l_ S)) (l_ S) ((wG S []).map iV))(n:∃f,h_ b K3 a (l_ (D++[(i,x)])) (xK (D++[(i,x)]) f)/\qE (a+4) b (D++[(i,x)]) f)(o:h_ d K3 (a+1) (l_ D+1) (upd (D9 D) x (some (.bool true))))(c:b.grownBy d (some (a+1))):NF a v S (D++[(i,x)]) d:=by obtain⟨f,p,q⟩:=n;(have h:∀k,k<a.heap.size+4->k≠a.heap.size+1->d.heap[k]?=b.heap[k]? :=λk h r=>c.block k U (λe=>r (Ch e)));refine⟨j.grown c U (λk e=>by grind),by have:=c.size;omega,l.block (h _ U U),iF m λg c=>?_,?_,f,p.block (h _ U U),q.kept c λk e=>by injection e with e;omega⟩;(.cases c;grind);.rw[<-TI];grind
def JI(v:V_)(L:H_)(w:W_)(h:SS w v L)(G:j6 L)(hl:l_ L<=900)(ag:Tab w):z 130 #[v] w (ZO w L):=by
 (have ak:wfS L:=λl hl x q=>by have:=(G l hl).1 x q;exact tJ U U);have bc:=(Py v L w h ak (λl hl=>(G l hl).2) U (λl hl=>by have:=uG (G l hl);omega) ag);have bj:= @run_makeMap prog;obtain⟨i0,hi,al,am,an⟩:=qw info3;go_in;go_wp2_with fail;refine bc.mono ?_;rintro e b ⟨vs,ps,rfl,⟨I,aI⟩,K,aV,hB⟩;obtain⟨S,B⟩:=e_ (ps.map (·.2));rw[B]at K;(have aW:l_ ps=l_ S:=by rw[<-B,qm]);obtain⟨A,c,ao⟩:=n_ I.1;rw[aW]at aV ao;subst ao;have C:=O K;(have bk:∀W:W_,(Instr.makeSlice 31 (.int .i64 (l_ S:Int)) (.int .i64 (l_ S:Int))).run prog W=.ok (.slice W (l_ S) (l_ S)) (L_ W 3 (madeCells (Value.int .i64 0).cells (l_ S*1))):=λW=>by have r:i0.size=1:=am;have:=run_make (P:=prog) W 31 3 i0 (.int .i64 0) underlying31 hi al .i64 .i64 (l_ S) (l_ S) U (Int.le_refl _) (by rw[an];omega) U;simpa[r]using this);go_wp2;go_loopw [27] (λi wr=>∃k:Nat,k<=l_ S/\i=.int .i64 k/\Hid (NF b (.slice A (l_ S) c) S (pairs S k) wr)) (λi _=>l_ S-(intOf i).toNat);exact⟨0,gZ _,rfl,O (NF.start b _ S U U)⟩;obtain⟨k,bf,rfl,d⟩:=hrel;by_cases aX:k<l_ S
 .obtain⟨s,t⟩:=get_some aX
  obtain⟨aJ,c9,Z,_,_,aa⟩:=I.ss.form;rw[B]at Z aa;(obtain⟨aY,rfl⟩:aJ=A/\c=c9:=by injection Z with r aK T;exact⟨r.symm,T⟩);subst aY;obtain⟨b1,ah,rfl,aZ,aH⟩:=aa U;obtain⟨u,ai,y⟩:=aH k s t;have aL:=(d.o.low.cell (p:=a_ b1 (ah+k)) aZ).trans ai;obtain⟨aM,aN,rfl⟩:=SI.slice_form y;have aO:=O y;have ap:Valid s:=(G s (((C.o.2 s).1 (gV t)).1));have bl:=uG ap;have q1:0<=(k:Int):=U;have q2:(k:Int)<l_ S:=U;go_wp2_with fail;go_loopw [34] (λi wr=>∃j:Nat,j<=l_ s/\i=.int .i64 j/\Hid (NF b (.slice (a_ b1 ah) (l_ S) c) S (jo S k j) wr)) (λi _=>l_ s-(intOf i).toNat);exact⟨0,gZ _,rfl,O (by rw[M5];exact d.o)⟩;obtain⟨j,bg,rfl,d⟩:=hrel;by_cases a0:j<l_ s
  .obtain⟨x,q⟩:=get_some a0
   obtain⟨_,_,aq,_,_,ar⟩:=aO.o.form;(obtain⟨rfl,rfl⟩:_=aM/\_=aN:=by injection aq with r aK T;exact⟨r.symm,T.symm⟩);obtain⟨b2,aP,rfl,a2,au⟩:=ar U;have bh:=(d.o.low.cell (p:=a_ b2 (aP+j)) a2).trans (au j x q);have bm:=ap.1 x (gV q);have J:qD x:=(tJ U U)
   have av:=(gY (PN (j:=j) t) (show l_ S.flatten<=1000000 from by
    have:=xJ (m:=1024) (L:=S) λl hl=>uG (G l ((C.o.2 l).1 hl).1)
    omega))
   go_upto_region 9 with(fail);obtain⟨aQ,aj,E⟩:=d.o.wth;obtain⟨f,c3,F⟩:=n_ (E.own x);(have Q:∀W:W_,W.heap[b.heap.size]?=wr.heap[b.heap.size]? ->(Instr.lookup 273 (.map (some b)) (.int .i64 x) false).run prog W=.ok (.slice f (l_ (rG (jo S k j) x)) c3) W:=λW aR=>by have:=(aj.block aR).look underlying273 (zeroValue31 W) J;unfold xK at this;rw[<-F];by_cases V:x∈(jo S k j).map (·.2);(.rwa[P_ V]at this);.rw[C_ V]at this;rwa[E.out x V]);have bn:=d.o.size;have a1:N wr (b+1+1) 1 (.map (some b)):=d.o.cells.1;have aS:=Q wr.drew rfl;have aT:=Q (wr.alloc (.cells #[k] 3)).drew (OH wr _ _ U);have ae:wr.ownsRow (b+4) 3 1 (.slice f (l_ (rG (jo S k j) x)) c3) (l_ (rG (jo S k j) x)) ((rG (jo S k j) x).map iV):=(by rw[<-F];exact E.own x);(have bo:l_ (rG (jo S k j) x)<=1000000:=by have:=av;unfold rG;rw[qm];exact gY (OA _ _) this);(have Y:∀g,g<b.heap.size+4->some g≠(Value.slice f (l_ (rG (jo S k j) x)) c3).ownBlock:=λg n e=>by have:=(ae.lt g e.symm).1;omega);(have aw:∀(o:Obj)(W:W_),(wr.alloc o).drew.grownBy W (Value.slice f (l_ (rG (jo S k j) x)) c3).ownBlock->N W (b+1+1) 1 (.map (some b)):=λo W n=>(EH (w:=(wr.alloc o).drew) (a:=a_ (b+1+1) 1) (n.block _ (show b.heap.size+1+1<(wr.alloc o).drew.heap.size from by simp;omega) (Y _ (by simp only;omega)))).trans (jc a1 o));(have aG:∀(o:Obj)(W:W_),(wr.alloc o).drew.grownBy W (Value.slice f (l_ (rG (jo S k j) x)) c3).ownBlock->h_ W K3 b (l_ (jo S k j)) (xK (jo S k j) aQ):=λo W n=>(aj.alloc o).drew.kept n (Y _ U));(have ax:∀(o:Obj)(W:W_),(wr.alloc o).drew.grownBy W (Value.slice f (l_ (rG (jo S k j) x)) c3).ownBlock->b.heap.size+1+1<W.heap.size:=λo W n=>by have:=n.size;simp at this;omega);have ay:l_ (jo S k j)<m_:=(by have:=av;simp only[m_];omega);have az:some (b.heap.size+1+1)≠some b.heap.size:=(λe=>by injection e;omega);clear Y
   go_region_held3 (λW=>N W (b+1+1) 1 (.map (some b))) (first|exact a1|exact jc a1 _|exact a4|exact a5)
    (first|(refine gI _ (enc1 iV) rfl (.tmp 48) (.tmp 50) 31 rfl (b+4) 3 i0 (.int .i64 0) 1 8 underlying31 hi al am an rfl D _ _ _ rfl (ae.alloc _) _ _ [(k:Int)] (λ_=>rfl) rfl (S1.lit wr wr rfl 3 #[k] iV [(k:Int)] 1 rfl rfl (by simp[m_])) (λx _ u y=>by(rw[gW.1 y];rfl)) ?c1 ?c2 ?c3 ?_;(case c1=>(simp only[m_,wT];omega));(case c2=>(simp only[wT];omega));(case c3=>(simp;omega));intro v4 X be H bd;have a4:N X (b+1+1) 1 (.map (some b)):=aw _ _ H;obtain⟨w5,aA,a3,aB⟩:=(aG _ _ H).put underlying273 ay J v4;have a6:(Instr.mapUpdate 273 (.map (some b)) (iV x) v4).run prog X=.ok () w5:=aA;have a5:N w5 (b+1+1) 1 (.map (some b)):=(EH (w:=X) (a:=a_ (b+1+1) 1) (aB.block _ (ax _ _ H) (az))).trans a4;clear aA)|fail)
   all_goals clear a1 aS aT a6 a4 a5 aw aG ax az Q;obtain⟨a7,aC,aD,a8,a9,a'⟩:=NF.ah1 (i:=k) (x:=x) (v:=v4) ((d.o.alloc _).drew) ((E.alloc _).drew) rfl rfl be (by rwa[F]) (by rwa[F]) a3 aB;have aU:=aD.cell 3;go_wp2_with (at_mapUpdate;refine iI _ rfl _ _ _ 109 rfl 4 K3 underlying109 (b+1) _ _ rfl a9 ay x J (.bool true) rfl rfl ?_);intro bi aE aF;have ba:=(NF.ah2 (i:=k) a7 aC aD a8 a' aE aF);go_wp2;go_roundw;exact⟨j+1,U,R,O (by rwa[M7 t q])⟩;exact M
  ·(obtain rfl:j=l_ s:=by omega);go_wp2;go_roundw;exact⟨k+1,U,R,O (by rw[<-M6 t];exact d.o)⟩;exact M
 ·(obtain rfl:k=l_ S:=by omega);go_wp2;go_ret;(have bb:j6 S:=λl hl=>G l ((C.o.2 l).1 hl).1);exact⟨_,rfl,rfl,rfl,C.o,NF.fam B I aI hB bb U d.o,b_ hB d.o.low⟩



