import Derived.RangeFuncNested
import Derived.Test.YtgoapenfbanhaaaGreatDoorJ02
set_option linter.all false
set_option maxRecDepth 100000
set_option maxHeartbeats 32000000
open List renaming length->l_
open Go.RowKit Go.Proofs.Tryz Go.Shelf Go.Sort
open Go renaming World->W_,Value->V_,maxLen->m_,TypeId->T_
namespace Go.Proofs.YtgoapenfbanhaaaGreatDoor
section
variable{p x:Cn}{l ps:List Cn}{Z:List Cn->Cn->Prop}{B base k:Nat}{X b:W_}
def JB(k:Int)(a:k<1\/7<k)(n:St)(lo hi:Int)(l:Nat)(A:J_)(cap:Nat)(w:W_):Y 118 #[.agg #[k,n,lo,hi,.slice A l cap]] w (V 21):=by rcases a with a|a;(.go_in;go_wp2;go_ret;exact⟨rfl,bA⟩);·(have b:¬k<1:=by omega);go_in;go_wp2;go_ret;exact⟨rfl,bA⟩
def EN(c:Cn)(A:J_)(cap:Nat)(w:W_)(d:Needs w)(a:l_ c.J<=4611686018427387904)(b:l_ c.N<=4611686018427387904):Y 118 #[.agg #[c.K,d_ c.N,c.lo,c.hi,.slice A (l_ c.J) cap]] w (fU c):=by obtain⟨k,n,lo,hi,ps⟩:=c;simp only[Cn.K,Cn.N,Cn.lo,Cn.hi,Cn.J]at a b ⊢;by_cases f:k<1\/7<k;(·(have:fU (.mk k n lo hi ps)=21:=by unfold fU;exact P_ f);rw[this];exact JB k f n lo hi _ A cap w);·(have g:k=1\/k=2\/k=3\/k=4\/k=5\/k=6\/k=7:=by omega);rcases g with rfl|rfl|rfl|rfl|rfl|rfl|rfl;(.exact Jo n lo hi ps A cap w d a b);(.exact Jp n lo hi ps A cap w d a b);(.exact Jr n lo hi ps A cap w d a b);(.exact Js n lo hi ps A cap w d a b);(.exact Jq n lo hi ps A cap w d a b);(.exact Jt n lo hi ps A cap w d a b);.exact Ju n lo hi ps A cap w d a b
attribute [local go_sem] ba_
structure Ak(B base:Nat)(W W':W_):Prop where
 size:(W:Nat)<=W'
 same:∀k,k<W.heap.size->(k<B\/base<=k)->W'.heap[k]?=W.heap[k]?
def Ak.trans{Y Z:W_}(h:Ak B base X Y)(k:Ak B base Y Z):Ak B base X Z:=⟨gY h.size k.size,λi a b=>(k.same i (qO a h.size) b).trans (h.same i a b)⟩
def Ak.below{Y:W_}(h:G X Y):Ak B base X Y:=⟨h.size,λk a _=>h.block k a⟩
abbrev JC:=List Cn->W_->Prop
def aco(J:JC):Prop:=∀s A B,J s A->G A B->J s B
def MR(Z:List Cn->Cn->Prop)(w:W_)(base m l:Nat)(J j:JC):Prop:=∀(pre:List Cn)(v:V_)(c:Cn)(W:W_),Z pre c->J pre W->CV w v c->base<=W->(∀k,k<w.heap.size->W.heap[k]?=w.heap[k]?)-> YieldAt Fence.wide m prog l #[v] W λe a=>Ak w base W a/\((e=.returned true/\J (pre++[c]) a)\/(e=.returned false/\j (pre++[c]) a))
def SK{m m' L:Nat}{a d:JC}(h:MR Z b base m L a d):MR Z b base m' L a d:=by intro pre v c W f g i j k;obtain⟨l,t,assign,body,n,e⟩:=h pre v c W f g i j k;exact⟨l,t,assign,body,n,e.1,λc o _=>e.2 c o (room_wide _)⟩
def sN:∀(l m:List Cn),Cn.kR (l++m)=Cn.kR l++Cn.kR m
 |[],m=>by simp[Cn.kR]
 |a::l,m=>by simp only[Ka,Cn.kR,sN l m,Kg]
def rD(h:ps[k]?=some p):Cn.kR (ps.take (k+1))=Cn.kR (ps.take k)++p.pre:=by rw[DL,h,sN];simp[Cn.kR]
def pre_eq(c:Cn):c.pre=c::Cn.kR c.J:=by cases c;rfl
def Zr(b:p∈l)(c:x∈p.pre):x∈Cn.kR l:=by
 induction l with
 |nil=>cases b
 |cons a l d=>
  simp only[Cn.kR,iq];rcases jL.1 b with rfl|b;(.exact .inl c);.exact .inr (d b)
def Zt{c:Cn}(a:p∈c.J)(b:x∈p.pre):x∈c.pre:=by rw[pre_eq];exact YZ _ (Zr a b)
def SL(h:ps[k]?=some p):Cn.kR ps=Cn.kR (ps.take k)++p.pre++Cn.kR (ps.drop (k+1)):=by rw[<-rD h,<-sN,dw_]
def KJ(b:W_)(base:Nat)(c:Cn)(J j:JC)(pre:List Cn)(W:W_)(e:Ending)(w:W_):Prop:=Ak b base W w/\((e=.returned true/\J (pre++c.pre) w)\/(e=.returned false/\∃q r,c.pre=q++r/\j (pre++q) w))
def WQ(Z:List Cn->Cn->Prop)(d:W_)(base au V:Nat)(g j:JC)(Y:aco g)(aL:aco j)(ad:MR Z d base au V g j)(aM:d<=base)(c:Cn):∀(v:V_)(pre:List Cn)(W:W_),(∀q x r,c.pre=q++x::r->Z (pre++q) x)->CV d v c->g pre W->base<=W->(∀k,k<d.heap.size->W.heap[k]?=d.heap[k]?)-> z 180 #[v,.func (.yield V) #[] #[]] W (KJ d base c g j pre W):=by
 induction c using Cn.ind with
 |h c av=>
  intro v pre W ae hc af aE J;refine(yY (n:=3)).1 ?_;obtain⟨A,cap,rfl,aO,aC,aG⟩:=hc.form;unfold m_ at aC;have aw:=(SK (m':=2) ad);clear ad;have aD:W.heap.size<(W.alloc (.cells (Cs c A cap) 27)).heap.size:=S;have B:G W (L_ W 27 (Cs c A cap)):=bA;have ay:f_ (L_ W 27 (Cs c A cap)) W 27 (Cs c A cap):=(f_.new _ _ _);obtain⟨aH,tmps,assign,body,I,X⟩:=aw pre _ c _ (Q (ae [] c (Cn.kR c.J) (by rw[pre_eq];rfl))) (Y _ _ _ af B) hc (by have:=B.size;omega) (λk s=>(B.block k U).trans (J k s));clear af;refine callsIn_of_wp func180 rfl trivial ?_ rfl;simp only[ntmps180,bc_,p8,Mv,Nat.reduceAdd,Nat.reduceSub,bg_,bh_,bi_,bj_,Y8,Ka];gi_wp2_with fail;refine X.mono ?_;rintro e t ⟨C,(⟨rfl,az⟩|⟨rfl,aq⟩)⟩
  .have am:f_ t W 27 (Cs c A cap):=(C.same W aD (.inr aE)).trans ay
   have aI:N t W 4 (.slice A (l_ c.J) cap):=am.cell 4;have aA:Hid (Ak d base W t):=O ((Ak.below B).trans C);clear C am X I;gi_wp2_with fail;gi_loopw [14] (λi wr=>∃(k:Nat),k<=l_ c.J/\i=.int .i64 k/\Hid (g (pre++c::Cn.kR (c.J.take k)) wr)/\Hid (Ak d base W wr)) (λi _=>l_ c.J-(intOf i).toNat);exact⟨0,gZ _,rfl,O (by simpa[Cn.kR]using az),aA⟩;obtain⟨k,s,rfl,an,l⟩:=hrel;by_cases aB:k<l_ c.J
   .obtain⟨b,f,rfl,ao,ar⟩:=aG U
    obtain⟨p,u⟩:=g_ aB;obtain⟨aJ,m,D⟩:=ar k p u;obtain⟨K,L,rfl⟩:=D.cells;have o:wr.heap[b]?=d.heap[b]? :=(l.o.same b U (.inl ao)).trans (J b ao);have ag:N wr b (f+k*5) p.K:=(EH (w:=d) (a:=a_ b (f+k*5)) o).trans (by have:=m 0 _ rfl;rw[<-this];congr 2;omega);have ah:N wr b (f+k*5+1) (d_ p.N):=(EH (w:=d) (a:=a_ b (f+k*5+1)) o).trans (by have:=m 1 _ rfl;rw[<-this];congr 2;omega);have ai:N wr b (f+k*5+2) p.lo:=(EH (w:=d) (a:=a_ b (f+k*5+2)) o).trans (by have:=m 2 _ rfl;rw[<-this];congr 2;omega);have aj:N wr b (f+k*5+3) p.hi:=(EH (w:=d) (a:=a_ b (f+k*5+3)) o).trans (by have:=m 3 _ rfl;rw[<-this];congr 2;omega);have ak:N wr b (f+k*5+4) (.slice K (l_ p.J) L):=(EH (w:=d) (a:=a_ b (f+k*5+4)) o).trans (by have:=m 4 _ rfl;rw[<-this];congr 2;omega);have ap:=O u;have aN:(W:Nat)<=wr:=l.o.size;have r1:0<=(k:Int):=U;have aK:(k:Int)<l_ c.J:=U;have aF:Hid (z 180 #[.agg (Cs p K L),.func (.yield V) #[] #[]] (L_ wr 27 (Cs p K L)) (KJ d base p g j (pre++c::Cn.kR (c.J.take k)) (L_ wr 27 (Cs p K L)))):=O (av p (gV u) _ _ _ (λq y r I=>Q (ae (c::Cn.kR (c.J.take k)++q) y (r++Cn.kR (c.J.drop (k+1))) (by rw[pre_eq,SL u,I];simp))) ⟨_,rfl,D⟩ (Y _ _ _ an.o bA) (by simp;omega) λk s=>(OH _ _ _ U).trans ((l.o.same k U (.inl s)).trans (J k s)));clear ar m D u o;gi_wp2_with fail;refine⟨trivial,((yY).2 aF.o).mono ?_⟩;rintro e P ⟨T,(⟨rfl,E⟩|⟨rfl,q,r,al,E⟩)⟩;.have F:Hid (Ak d base W P):=O ((l.o.trans (Ak.below bA)).trans T);have H:Hid (g (pre++c::Cn.kR (c.J.take (k+1))) P):=O (by rw[rD ap.o];simpa using E);clear T E ag ah ai aj ak;gi_wp2_with fail;go_roundw;exact⟨k+1,U,R,H,F⟩;exact M
    .have F:Hid (Ak d base W P):=O ((l.o.trans (Ak.below bA)).trans T)
     have H:Hid (∃q r,c.pre=q++r/\j (pre++q) P):=O ⟨c::(Cn.kR (c.J.take k)++q),r++Cn.kR (c.J.drop (k+1)),by
      have ax:Cn.kR c.J=Cn.kR (c.J.take (k+1))++Cn.kR (c.J.drop (k+1)):=by rw[<-sN,dw_]
      rw[pre_eq,ax,rD ap.o,al];simp,Q E⟩
     clear T E al ag ah ai aj ak;gi_wp2_with fail;go_ret;exact⟨F.o,.inr ⟨rfl,H.o⟩⟩
   ·(obtain rfl:k=l_ c.J:=by omega);gi_wp2_with fail;go_ret;exact⟨l.o,.inl ⟨rfl,by have:=an.o;rw[jy]at this;rwa[pre_eq]⟩⟩
  .have F:Hid (Ak d base W t):=O ((Ak.below B).trans C);have H:Hid (∃q r,c.pre=q++r/\j (pre++q) t):=O ⟨[c],Cn.kR c.J,by rw[pre_eq];rfl,aq⟩;clear C aq X I;gi_wp2_with fail;go_ret;exact⟨F.o,.inr ⟨rfl,H.o⟩⟩
end
section
variable{a:Addr}{ps:Array Tmp}{b:Func}{s:Int}{B n:Nat}{g:Operand}{row:Option Nat}{P:Program}{c t:T_}{p:Tmp}{u v:V_}{W w:W_}
attribute [local go_sem] ba_
def Zu:∀args w,(callFunc 179 args).run prog w=.ok (.enter 179 args) w:=enters_of func179 k_ rfl
def Pj(k:Int)(n:St)(lo hi:Int)(A:J_)(l cap:Nat)(w:W_):z 117 #[.agg #[k,d_ n,lo,hi,.slice A l cap]] w λe w'=>e=.returned (.func (.func 179) #[] #[.pointer w])/\w'=w.alloc (.cells #[k,d_ n,lo,hi,.slice A l cap] 27):=by unfold d_;go_in;go_wp2;go_ret;exact⟨rfl,rfl⟩
def WR(Z:List Cn->Cn->Prop)(a:W_)(base m D d:Nat)(f i:JC)(o:aco f)(y:aco i)(p:MR Z a base m D f i)(E:a<=base)(c:Cn)(k:Int)(n:St)(lo hi:Int)(A:J_)(L cap:Nat)(W:W_)(g:f_ W d 27 #[.int .i64 k,d_ n,lo,hi,.slice A L cap])(s:∀q x r,c.pre=q++x::r->Z q x)(G:CV a (.agg #[.int .i64 k,d_ n,lo,hi,.slice A L cap]) c)(t:f [] W)(F:base<=W)(B:∀k,k<a.heap.size->W.heap[k]?=a.heap[k]?):z 179 #[.func (.yield D) #[] #[],.pointer d] W λe j=>(∃v,e=.returned v)/\Ak a base W j/\(f c.pre j\/∃q r,c.pre=q++r/\i q j):=by
 have H:=O (WQ Z a base m D f i o y p E c _ [] W (Q s) G t F B);have I:N W d 0 k:=g.cell 0;have c1:N W d 1 (d_ n):=g.cell 1;have c2:N W d 2 lo:=g.cell 2;have c3:N W d 3 hi:=g.cell 3;have c4:N W d 4 (.slice A L cap):=g.cell 4;clear o y p t g G s B;unfold d_ at H c1;go_in;go_wp2_with fail;refine H.o.mono ?_;rintro e l ⟨u,h⟩
 have w:Ak a base W l/\(f c.pre l\/∃q r,c.pre=q++r/\i q l):=⟨u,by
  rcases h with⟨_,h⟩|⟨_,h⟩;.exact .inl h
  .exact .inr h⟩
 have C:∃b,e=.returned (.bool b):=(by
  rcases h with⟨h,_⟩|⟨h,_⟩;.exact⟨_,h⟩
  .exact⟨_,h⟩)
 clear h u;obtain⟨b,rfl⟩:=C;go_wp2;go_end0;exact⟨⟨_,rfl⟩,w.1,w.2⟩
def Pk(B base:Nat)(I:JC)(i:Code->JC)(xs:List Cn)(W:W_):Exit->Act->W_->Prop
 | .normal,_,w=>KeepsFrom base W w/\Ak B (base+2) W w/\I xs w
 | .ret,_,w=>KeepsFrom base W w/\Ak B (base+2) W w/\i .ret xs w
 | .exit d,_,w=>KeepsFrom base W w/\Ak B (base+2) W w/\i (.exit d) xs w
 | .goto t,_,w=>KeepsFrom base W w/\Ak B (base+2) W w/\i (.goto t) xs w
 | .panic _,_,_=>False
 | .outgrown,_,_=>False
def rE{base l:Nat}(a:Obj)(b:B<=l)(c:l<base):Ak B base W (W.putObj l a):=⟨by simp[World.putObj],λ_ _ d=>World.putObj_heap_other U⟩
def Gc{assign body:Code}{Q:Exit->Act->W_->Prop}{a:Act}(Z:List Cn->Cn->Prop)(f:W_)(c:Cn)(aB:∀q x r,c.pre=q++x::r->Z q x)(ah:Nat)(k:Int)(am:St)(lo hi:Int)(A:J_)(R cap:Nat)(aC:1<=n)(aD:a.eval g=.func (.func 179) #[] #[.pointer ah])(aK:ps.size=1)(hB:G f w)(aE:f_ w ah 27 #[k,d_ am,lo,hi,.slice A R cap])(hc:CV f (.agg #[k,d_ am,lo,hi,.slice A R cap]) c)(I:JC)(aj:Code->JC)(L:OwnFrom w I)(ai:∀c,OwnFrom w (aj c))(aF:I [] w)(ak:V_->Act->W_->Prop)
 (a4:∀(l:Nat)(u:V_)(x:Cn)(W:W_)(av:Act->W_->Prop),CV f u x->w.heap.size+2<=W.heap.size->(∀a1 j,ak u a1 j->G W j->av a1 j)->
  assign.wpIn (Fence.wide.inRound l) (n-1-1) prog (Exit.then av (λ_ _ _=>False)) {tmps:=(ps.zip #[u]).foldl (λt (p,v)=>t.setIfInBounds p v) a.tmps,defers:=[]} W)
 (aL:∀u a1 W aG,ak u a1 W->ak u a1 (W.putObj (w+1) aG))
 (aZ:∀(l:Nat)(pre:List Cn)(u:V_)(x:Cn)(a1:Act)(W:W_),w<=l->Z pre x->I pre W->CV f u x->(∀k,k<f.heap.size->W.heap[k]?=f.heap[k]?)->w.heap.size+2<=W.heap.size->ak u a1 W->body.wpIn (Fence.wide.inRound l) (n-1-1) prog (Pk f w I aj (pre++[x]) W) a1 W)
 (a0:∀(D:Nat)(W:W_),w<=D->I c.pre W->W.heap[D]?=some (.deferred (some []))->Q .normal {a with defers:={target:= .collected D,args:= #[]}::a.defers} W)
 (a2:∀(D:Nat)(m:Code)(q r:List Cn)(W:W_),w<=D->c.pre=q++r->aj m q W->W.heap[D]?=some (.deferred (some []))->m.wpIn Fence.wide n prog Q {a with defers:={target:= .collected D,args:= #[]}::a.defers} W):
 (Code.rangeFunc g ps assign body).wpIn Fence.wide n prog Q a w:=by
 refine wpIn_rangeFunc ?_
 intro fn aM
 obtain⟨b,H⟩:∃b:LoopState->Option Code->Loop,b=λst aH=>{state:=st,pending:=aH,fn,tmps:=a.tmps,params:=ps,assign,body,defers:=w.heap.size}:=⟨_,rfl⟩
 obtain⟨K,ag⟩:=e_ ((w.alloc (.deferred (some []))).alloc (.loop (b .ready none)))
 have aN:K.heap[w.heap.size+1]?=some (.loop (b .ready none)):=by rw[<-ag];have:=World.alloc_heap_new (w.alloc (.deferred (some []))) (.loop (b .ready none));rwa[World.size_alloc]at this
 have aO:K.heap[w.heap.size]?=some (.deferred (some [])):=by rw[<-ag];exact(OH _ _ _ S).trans (World.alloc_heap_new w _)
 have aP:I [] K:=by rw[<-ag];exact L.alloc _ (L.alloc _ aF)
 have ay:G w K:=by rw[<-ag];exact((fu _ w).alloc (gH _) _).alloc S _
 have a7:K.heap.size=w.heap.size+2:=by rw[<-ag];simp
 have a8:=hB.size
 refine⟨w.heap.size+1,[{target:= .collected w,args:= #[]}],K,{target:= .fn (.func 179) #[.pointer ah],args:= #[.func (.yield (w+1)) #[] #[]]},K,179,#[.func (.yield (w+1)) #[] #[]]++ #[.pointer ah],K,?_,?_,λ_ _=>trivial,?_,λ_=>aC,(yY).2 ?_⟩
 .rw[<-ag,H];exact run_enterLoop_outer _ _ _ _ _
 .simp only[resolve,aD];simp[go_sem]
 .simp[invoke,go_sem,Zu]
 .have up:∀{an:JC},OwnFrom w an->∀s A B,an s A->Below A A B->an s B:=λh s A B aI i=>h s A B none aI ⟨i.os,i.tape,i.output,i.size,λk d _=>i.block k d⟩ (λr e=>by cases e)
  (have V:∀{A B:W_}{k:Nat}{o:Obj},A.heap[k]?=some o->G A B->B.heap[k]?=some o:=λh hb=>(hb.block _ (yZ.1 h).1).trans h);refine(WR Z f (w+2) (n-1-1) (w+1) ah (λpre W=>I pre W/\W.heap[w.heap.size+1]?=some (.loop (b .ready none))/\W.heap[w.heap.size]?=some (.deferred (some []))) (λpre W=>∃m,aj m pre W/\W.heap[w.heap.size+1]?=some (.loop (b .done (some m)))/\W.heap[w.heap.size]?=some (.deferred (some []))) (λs A B ⟨ao,ap,aq⟩ i=>⟨up L s A B ao i,V ap i,V aq i⟩) (λs A B ⟨m,ao,ap,aq⟩ i=>⟨m,up (ai m) s A B ao i,V ap i,V aq i⟩) ?_ U c k am lo hi A R cap K (aE.below ay) aB hc ⟨aP,aN,aO⟩ U (λk d=>(ay.block k U).trans (hB.block k d))).mono ?_
  .rintro pre u x W aQ ⟨hi,hl,d⟩ aw az aA
   have ar:=run_yield (P:=prog) (args:= #[u]) hl (by rw[H];exact aK.symm);rw[H]at ar;refine⟨fn,_,assign,body,ar,roundIn_of_wpIn aM (a4 _ u x W _ aw U ?_)⟩;clear ar;intro a1 j aR X;have au:=V hl X;have aS:=V d X;have aT:=up L _ _ _ hi X;(have aX:∀k,k<f.heap.size->j.heap[k]?=f.heap[k]? :=λk d=>(X.block k U).trans (aA k d));have aY:w.heap.size+2<=j.heap.size:=gY az X.size;have aU:Ak f (w+2) W j:=Ak.below X;clear hl d hi aA az X;have aV:w.heap.size+1<j.heap.size:=(yZ.1 au).1;refine⟨_,run_beginRound au (by rw[H]),?_⟩;have hl2:(j.putObj (w+1) (.loop {b .ready none with state:= .busy})).heap[w.heap.size+1]?=some (.loop {b .ready none with state:= .busy}):=World.putObj_heap_same aV;have aW:(j.putObj (w+1) (.loop {b .ready none with state:= .busy})).heap[w.heap.size]?=some (.deferred (some [])):=(World.putObj_heap_other U).trans aS;have al:Ak f (w+2) W (j.putObj (w+1) (.loop {b .ready none with state:= .busy})):=aU.trans (rE _ U U);refine wpIn_mono (aZ _ pre u x a1 _ U aQ (L.putObj _ aT U au rfl) aw (λk d=>(World.putObj_heap_other U).trans (aX k d)) (by simpa[World.putObj]using aY) (aL _ _ _ _ aR)) ?_;(have z:∀(E:Option Code)(y:W_),KeepsFrom w (j.putObj (w+1) (.loop {b .ready none with state:= .busy})) y-> (Instr.endRound (w+1) E).run prog y=.ok (.bool E.isNone) (y.putObj (w+1) (.loop (b (if E.isNone then .ready else .done) E)))/\ y.heap[w.heap.size+1]?=some (.loop {b .ready none with state:= .busy})/\ (y.putObj (w+1) (.loop (b (if E.isNone then .ready else .done) E))).heap[w.heap.size+1]?=some (.loop (b (if E.isNone then .ready else .done) E))/\ (y.putObj (w+1) (.loop (b (if E.isNone then .ready else .done) E))).heap[w.heap.size]?=some (.deferred (some [])):=λE y F=>by have C:=F.same _ _ U hl2 rfl;have:=run_endRound (P:=prog) E C;rw[H]at this ⊢;exact⟨this,by rwa[H]at C,World.putObj_heap_same (yZ.1 C).1,(World.putObj_heap_other U).trans (F.same _ _ (gH _) aW rfl)⟩);rintro e a3 y Y
   cases e with
   |normal=>
    obtain⟨F,O,J⟩:=Y;obtain⟨T,C,M,N⟩:=z none y F;exact⟨_,_,T,(al.trans O).trans (rE _ U U),.inl ⟨rfl,L.putObj _ J U C rfl,M,N⟩⟩
   |ret=>
    obtain⟨F,O,J⟩:=Y;obtain⟨T,C,M,N⟩:=z (some .ret) y F;exact⟨_,_,T,(al.trans O).trans (rE _ U U),.inr ⟨rfl,.ret,(ai _).putObj _ J U C rfl,M,N⟩⟩
   |exit ax=>
    obtain⟨F,O,J⟩:=Y;obtain⟨T,C,M,N⟩:=z (some (.exit ax)) y F;exact⟨_,_,T,(al.trans O).trans (rE _ U U),.inr ⟨rfl,.exit ax,(ai _).putObj _ J U C rfl,M,N⟩⟩
   |goto t=>
    obtain⟨F,O,J⟩:=Y;obtain⟨T,C,M,N⟩:=z (some (.goto t)) y F;exact⟨_,_,T,(al.trans O).trans (rE _ U U),.inr ⟨rfl,.goto t,(ai _).putObj _ J U C rfl,M,N⟩⟩
   |panic a5=>exact Y.elim
   |outgrown=>exact Y.elim
  .rintro e a6 ⟨⟨v,rfl⟩,_,(⟨hi,hl,d⟩|⟨q,r,aJ,m,hi,hl,d⟩)⟩;(.exact⟨none,_,by have:=run_endLoop (P:=prog) hl (by rw[H];simp);rwa[H]at this,a0 _ _ (gH _) (L.putObj _ hi U hl rfl) ((World.putObj_heap_other U).trans d)⟩);.exact⟨some m,_,by have:=run_endLoop (P:=prog) hl (by rw[H];simp);rwa[H]at this,a2 _ m q r _ (gH _) aJ ((ai m).putObj _ hi U hl rfl) ((World.putObj_heap_other U).trans d)⟩
attribute [local go_sem] ba_
def gM(h:b.results= #[.cell p c])(t:A_)(w:W_)(d:t.getD p undef=.pointer (some a))(hl:(loadVar c a).run P w=.ok u w):(results b t).run P w=.ok u w:=by have e:t[p]?.getD undef=.pointer (some a):=Q d;simp[results,h,e,asAddr,hl]
def Gd(h:w.cell? a=some v):(loadVar 36 a).run prog w=.ok v w:=by simp[loadVar,h]
def xE(l:List Cn)(c:Cn):j4 (l++[c])=if j4 l≠0 then j4 l else fU c:=by
 induction l with
 |nil=>simp only[Y8,j4];split<;>simp_all
 |cons a l b=>simp only[Ka,j4,b];split<;>simp_all
def SN{l r:List Cn}(h:j4 l≠0):j4 (l++r)=j4 l:=by
 induction l with
 |nil=>exact absurd rfl h
 |cons a l b=>
  simp only[Ka,j4]at h ⊢;split;(.rfl);.rename_i c;rw[C_ c]at h;exact b h
def Je(c:Cn):Prop:=∀x∈c.pre,l_ x.N<=1000000
def lD:∀ps:List Cn,l_ ps<=Cn.sizes ps
 |[]=>gZ _
 |c::l=>by have:=lD l;have:=c.size_pos;simp only[Cn.sizes,p8];omega
def Zv(c:Cn):∀x∈c.pre,x.size<=c.size:=by
 induction c using Cn.ind with
 |h c e=>
  intro x b;rw[pre_eq]at b;rcases jL.1 b with rfl|b;.exact gH _
  .have:∀ps:List Cn,(∀p∈ps,p∈c.J)->x∈Cn.kR ps->x.size<=c.size:=λps=>by
    induction ps with
    |nil=>intro _ h;simp[Cn.kR]at h
    |cons a l g=>
     intro d h;simp only[Cn.kR]at h;rcases iq.1 h with h|h;(.have i:=e a (d a S) x h;have j:=Cn.lu (d a S);omega);.exact g (λp f=>d p (by simp[f])) h
   exact this c.J (λ_ h=>h) b
def f_.keep{w':W_}{g:Nat}{a:A_}(h:f_ w g t a)(b:w'.heap[g]?=w.heap[g]?):f_ w' g t a:=b.trans h
structure CkI(w:W_)(s:Int)(W:W_):Prop where
 low:G w W
 r:f_ W (w+1) 36 #[s]
def ckI(w:W_)(pre:List Cn)(W:W_):Prop:=CkI w 0 W/\j4 pre=0
def ckX(w:W_):Code->JC
 | .ret=>λpre W=>CkI w (j4 pre) W/\j4 pre≠0
 |_=>λ_ _=>False
def CkI.move{a:W_}(h:CkI w s W)(b:W.grownBy a row)(c:∀r,row=some r->B<=r)(H:w+2<=B):CkI w s a:=⟨h.low.grown b h.low.size (λk e=>by have:=c k e;omega),h.r.keep (b.block _ h.r.lt λe=>by have:=c _ e.symm;omega)⟩
def ckI.own(H:w+2<=B):OwnFrom B (ckI w):=λ_ _ _ _ h a b=>⟨h.1.move a (λr e=>(b r e).1) H,h.2⟩
def ckX.own(H:w+2<=B)(c:Code):OwnFrom B (ckX w c):=λs W d row h a b=>by
 cases c with
 |ret=>exact⟨h.1.move a (λr e=>(b r e).1) H,h.2⟩
 |_=>exact h.elim
def pI(c:Cn)(v:V_)(w:W_)(J:CV w v c)(hw:Je c)(aG:Needs w):Y 72 #[v] w (u_ c):=by
 refine(yY (n:=4)).1 ?_;obtain⟨A,cap,rfl,ba,bb,aX⟩:=J.form;clear aX;have aO:=O J;have⟨a,s⟩:=e_ (((((w.alloc (.cells (Cs c A cap) 27)).alloc (.cells #[V 0] 36)).alloc (.cells #[V 0] 3)).setCell (a_ (w+1+1) 0) (.int .i64 0)));(have B:f_ a w 27 (Cs c A cap):=by rw[<-s];exact(((f_.new _ _ _).alloc _).alloc _).far (by simp only;omega) _);(have aP:f_ a (w+1) 36 #[V 0]:=by rw[<-s];exact((f_.newAt _ _ _ S).alloc _).far (by simp only;omega) _);(have ay:f_ a (w+1+1) 3 #[V 0]:=by rw[<-s];have:=(f_.newAt (L_ (L_ w 27 (Cs c A cap)) 36 #[V 0]) 3 #[V 0] (n:=w.heap.size+1+1) S).iK 0 (.int .i64 0);simpa using this);(have ak:G w a:=by rw[<-s];exact(X_ (X_ bA _) _).setCell (by simp only;omega) _);(have al:a.heap.size=w.heap.size+3:=by rw[<-s];simp);have H:N a w 0 c.K:=B.cell 0;have I:N a w 1 (d_ c.N):=B.cell 1;have K:N a w 2 c.lo:=B.cell 2;have L:N a w 3 c.hi:=B.cell 3;have P:N a w 4 (.slice A (l_ c.J) cap):=B.cell 4;have aE:z 116 #[.agg (Cs c A cap),V 0,.pointer (a_ (w+1+1) 0)] a (F3 a (w+1+1) c 0 0):=(Zl c _ 0 0 w a _ J ak U ay U U);have a3:(a:Nat)<=w+3/\w.heap.size+3<=a.heap.size:=U;clear J ay al;refine callsIn_of_wp_marks func72 rfl trivial ?_ rfl;simp only[ntmps72,bc_,p8,Mv,Nat.reduceAdd,Nat.reduceSub,bg_,bh_,bi_,bj_,Y8,Ka];gi_wp2_with (rw[s]);clear s;refine⟨trivial,((yY).2 aE).mono ?_⟩;rintro e b ⟨aH,aY,rfl,X,aQ,ac,az⟩;clear aE;have ae:G w b:=ak.grown X ak.size (λk e=>by cases e;omega);have C:f_ b (w+1) 36 #[V 0]:=aP.grown X S;have t:f_ b w 27 (Cs c A cap):=B.grown X (by simp;omega);have a4:=X.size;clear X aQ H I K L P
 cases aH with
 |false=>
  have aI:u_ c=21:=(by unfold u_ Kq;refine C_ λh=>?_;exact absurd (ac.2 ⟨U,U⟩) S);have c1:N b (w+1) 0 (V 0):=C.cell 0;have av:=C.frozen 0;have am:=O C;have an:=O ae;clear ac az C ae t;gi_wp2_with fail;(have g1:f_ (b.setCell (a_ (w+1) 0) (.int .i64 21)) (w+1) 36 #[V 21]:=by have:=am.o.iK 0 (.int .i64 21);simpa using this);exact⟨_,gM rfl _ _ rfl (Gd (g1.cell 0)),by rw[aI];rfl,an.o.setCell (by simp only;omega) _⟩
 |true=>
  have af:Kq c:=(by have:=ac.1 rfl;unfold Kq;omega);have H:N b w 0 c.K:=t.cell 0;have I:N b w 1 (d_ c.N):=t.cell 1;have K:N b w 2 c.lo:=t.cell 2;have L:N b w 3 c.hi:=t.cell 3;have P:N b w 4 (.slice A (l_ c.J) cap):=t.cell 4;have am:=O C;have an:=O ae;clear ac az C ae t;gi_wp2_with fail;refine⟨trivial,((yY).2 (Pj c.K c.N c.lo c.hi A (l_ c.J) cap b)).mono ?_⟩;rintro e aZ ⟨rfl,rfl⟩;clear H I K L P;gi_wp2_with fail;have⟨d,E⟩:=e_ (b.alloc (.cells (Cs c A cap) 27));(have aA:G w d:=by rw[<-E];exact X_ an.o _);(have aB:f_ d (w+1) 36 #[V 0]:=by rw[<-E];exact am.o.alloc _);(have aR:f_ d b 27 (Cs c A cap):=by rw[<-E];exact f_.new _ _ _);(have a5:d.heap.size=b.heap.size+1:=by rw[<-E];simp);rw[E];have aS:ckI w [] d:=⟨⟨aA,aB⟩,rfl⟩;clear aB E
  refine Gc (λ_ x=>l_ x.N<=1000000/\x.size<=64) w c (λq x r aJ=>have aw:x∈c.pre:=(by rw[aJ];simp);⟨hw x aw,gY (Zv c x aw) af.2⟩) b c.K c.N c.lo c.hi A (l_ c.J) cap U rfl rfl aA aR aO.o (ckI w) (ckX w) (ckI.own U) (ckX.own U) aS
   (λu a1 W=>∃(T:A_)(g:Nat),u=.agg T/\f_ W g 27 T/\b+3<=g/\a1={tmps:= #[.agg (Cs c A cap),.pointer (a_ w 0),.pointer (a_ (w+1) 0),.pointer (a_ (w+1+1) 0),.pointer (a_ g 0),undef,
    .agg (Cs c A cap),.bool true,.bool false,.agg (Cs c A cap),
    .func (.func 179) #[] #[.pointer (a_ b 0)],u,undef,undef,undef,undef,undef],defers:=[]})
   ?assign ?ap ?body ?done ?stop
  (case assign=>intro lp u x W a0 Z al l;obtain⟨Ax,ag,rfl,_⟩:=Z.form;have y:=O l;clear l;gi_wp2;exact y.o _ _ ⟨_,_,rfl,f_.new _ _ _,U,rfl⟩ bA);case ap=>rintro u a1 W a2 ⟨T,g,rfl,aK,aL,rfl⟩;exact⟨T,g,rfl,aK.keep (World.putObj_heap_other U),aL,rfl⟩
  case body=>
   rintro lp pre u x a1 W a6 ⟨a7,aT⟩ m Z aU al ⟨T,g,rfl,F,a8,rfl⟩;have⟨Ax,ag,ao,_⟩:=Z.form;injection ao with ao;subst ao;have H:N W g 0 x.K:=F.cell 0;have I:N W g 1 (d_ x.N):=F.cell 1;have K:N W g 2 x.lo:=F.cell 2;have L:N W g 3 x.hi:=F.cell 3;have P:N W g 4 (.slice Ax (l_ x.J) ag):=F.cell 4;have f:=O m;(have a9:l_ x.J<=64:=by have:=lD x.J;rw[size_eq]at aT;omega);clear m Z F aU;gi_wp2_with fail;refine⟨trivial,((yY).2 (EN x Ax ag W (aG.up f.o.1.low) U U)).mono ?_⟩;rintro e i ⟨rfl,j⟩;have aF:G w i:=b_ f.o.1.low j;have ad:f_ i (w+1) 36 #[V 0]:=f.o.1.r.below j;have c1:N i (w+1) 0 (V 0):=ad.cell 0;have av:=ad.frozen 0;clear H I K L P;by_cases M:fU x=0
   .have ah:Hid (KeepsFrom d W i/\Ak w (d+2) W i/\ckI w (pre++[x]) i):=O
     ⟨⟨j.size,λk o _ ai _=>(j.block k (yZ.1 ai).1).trans ai⟩,Ak.below j,⟨aF,ad⟩,by rw[xE,f.o.2,M];rfl⟩
    rw[M]
    gi_wp2_with fail
    exact ah.o
   .have hb:(fU x !=0)=true:=Q M
    have ai:w.heap.size+1<d.heap.size:=U
    have ah:Hid (KeepsFrom d W (i.setCell (a_ (w+1) 0) (.int .i64 (fU x)))/\Ak w (d+2) W (i.setCell (a_ (w+1) 0) (.int .i64 (fU x)))/\ckX w .ret (pre++[x]) (i.setCell (a_ (w+1) 0) (.int .i64 (fU x)))):=O
     ⟨⟨by simpa[World.setCell]using j.size,λk o aC aq _=>(Fg _ _ _ _ (by simp only;omega)).trans ((j.block k (yZ.1 aq).1).trans aq)⟩,⟨by simpa[World.setCell]using j.size,λk aC aq=>(Fg _ _ _ _ (by simp only;omega)).trans (j.block k aC)⟩,⟨aF.setCell (by simp only;omega) _,by have:=ad.iK 0 (.int .i64 (fU x));rw[xE,f.o.2];simpa using this⟩,by rw[xE,f.o.2];simpa using M⟩
    gi_wp2_with fail;exact ah.o
  case done=>intro D W aM m l;have c1:N W (w+1) 0 (V 0):=m.1.r.cell 0;have av:=m.1.r.frozen 0;have f:=O m;have y:=O l;have a':D≠w.heap.size+1:=U;clear m l;gi_wp2_with fail;have⟨p,R⟩:=e_ (W.setCell (a_ (w+1) 0) (.int .i64 0));(have aD:p.heap[D]?=some (.deferred (some [])):=by rw[<-R];exact(Fg _ _ _ _ (by simp only;omega)).trans y.o);(have aV:G w p:=by rw[<-R];exact f.o.1.low.setCell (by simp only;omega) _);(have aW:f_ p (w+1) 36 #[V 0]:=by rw[<-R];have:=f.o.1.r.iK 0 (.int .i64 0);simpa using this);rw[R];refine⟨S,.inl ⟨_,_,rfl,run_takeDeferred aD,?_⟩⟩;have ar:=aW.keep (World.putObj_heap_other (w:=p) (r:=D) (o:= .deferred none) (k:=w.heap.size+1) U);refine⟨_,gM rfl _ _ rfl (Gd (ar.cell 0)),?_,aV.trans (belowK_b (w:=w) (gH _) p D _ _ U aD rfl rfl)⟩;(have:u_ c=0:=by unfold u_;rw[P_ af];exact f.o.2);rw[this];rfl
  case stop=>
   intro D ax q r W aM aN aj l
   have J:ax=.ret:=by
    cases ax with
    |ret=>rfl
    |_=>exact aj.elim
   subst J;have au:CkI w (j4 q) W/\j4 q≠0:=aj;have y:=O l;clear aj l;gi_wp2_with fail;refine⟨S,.inl ⟨_,_,rfl,run_takeDeferred y.o,?_⟩⟩;have ar:=au.1.r.keep (World.putObj_heap_other (w:=W) (r:=D) (o:= .deferred none) (k:=w.heap.size+1) U);refine⟨_,gM rfl _ _ rfl (Gd (ar.cell 0)),?_,au.1.low.trans (belowK_b (w:=w) (gH _) W D _ _ U y.o rfl rfl)⟩;(have:u_ c=j4 q:=by unfold u_;rw[P_ af,aN,SN au.2]);rw[this];rfl
end
variable{α:Type}{p:Addr}{c:Cn}{A:J_}{ps:List Cn}{l:List α}{B base cap g i k:Nat}{Z:Nat->Prop}{C a:O_}{row:Option Nat}{n:St}{e t:T_}{u v:V_}{b w w':W_}{f:α->O_}
def WS(k:Int)(n:St)(lo hi:Int)(ps:List Cn):qY (.mk k n lo hi ps)=(decide (k=0)&&decide (n=[])&&decide (lo=0)&&decide (hi=0)&&decide (l_ ps=0)):=by unfold qY;cases ps<;>rfl
def D6(c:Cn)(A:J_)(cap:Nat)(w:W_)(d:l_ c.J<=1000000):Y 113 #[.agg (Cs c A cap)] w (qY c):=by obtain⟨k,n,lo,hi,ps⟩:=c;rw[WS];simp only[Cn.K,Cn.N,Cn.lo,Cn.hi,Cn.J]at d ⊢;unfold d_;generalize (l_ ps)=m at *;obtain⟨g,b⟩:∃a,Hid ((decide (k=0)&&decide (n=[])&&decide (lo=0)&&decide (hi=0)&&decide (m=0))=a):=⟨_,O rfl⟩;rw[b.o];go_in;go_wp2_with fail;all_goals have f:=b.o;go_ret;refine⟨lC ?_,bA⟩;rw[<-f];first|(simp_all;done)|(by_cases h:m=0<;>simp_all)
def Zw(p:Cn):Prop:=∀(v:V_)(w:W_),CV w v p->Y 73 #[v] w (p9 p)
def MS{p:Cn}(h:ps[k]?=some p)(b:jd (ps.take k)=false)(c:p9 p=false):jd (ps.take (k+1))=false:=by
 have:∀(l m:List Cn),jd (l++m)=(jd l||jd m):=λl m=>by
  induction l with
  |nil=>simp[jd]
  |cons a l d=>simp only[Ka,jd,d,Bool.or_assoc]
 rw[DL,h,this,b];simp[jd,c]
def Pm{p:Cn}(h:ps[k]?=some p)(b:p9 p=true):jd ps=true:=by
 have c:=gV h
 induction ps generalizing k with
 |nil=>cases c
 |cons a l d=>
  rw[jd]
  cases k with
  |zero=>simp at h;subst h;rw[b];rfl
  |succ k=>rw[d (Q h) (gV (Q h)),Bool.or_true]
def JD(ps:List Cn)(hb:∀p∈ps,Zw p)(A:J_)(cap:Nat)(w:W_)(T:l_ ps<=cap)(D:cap<=m_)(d:0<l_ ps->∃b a,A=some ⟨b,a,none⟩/\b<w/\∀i p,ps[i]?=some p->∃l,(∀(j:Nat) u,l[j]?=some u->N w b (a+5*i+j) u)/\nV w p l):z 181 #[.slice A (l_ ps) cap,.func (.func 73) #[] #[]] w λe w'=>∃n:Int,e=.returned n/\(0<=n↔jd ps=true)/\G w w':=by
 unfold m_ at D;have C:=O d;clear d;go_in;go_wp2;go_loopw [8] (λi wr=>∃k:Nat,k<=l_ ps/\i=.int .i64 (k:Int)/\Hid (jd (ps.take k)=false)/\Hid (G w wr)) (λi _=>l_ ps-(intOf i).toNat);exact⟨0,gZ _,rfl,O (by simp[jd]),O (fu _ _)⟩;obtain⟨k,W,rfl,q,c⟩:=hrel;by_cases P:k<l_ ps
 .obtain⟨b,a,rfl,g,y⟩:=C.o U
  obtain⟨p,d⟩:=g_ P;obtain⟨l,f,o⟩:=y k p d;obtain⟨r,s,rfl⟩:=o.cells;have E:N wr b (a+k*5) p.K:=(c.o.cell (p:=a_ b (a+k*5)) g).trans (by have:=f 0 _ rfl;rw[<-this];congr 2;omega);have F:N wr b (a+k*5+1) (d_ p.N):=(c.o.cell (p:=a_ b (a+k*5+1)) g).trans (by have:=f 1 _ rfl;rw[<-this];congr 2;omega);have H:N wr b (a+k*5+2) p.lo:=(c.o.cell (p:=a_ b (a+k*5+2)) g).trans (by have:=f 2 _ rfl;rw[<-this];congr 2;omega);have I:N wr b (a+k*5+3) p.hi:=(c.o.cell (p:=a_ b (a+k*5+3)) g).trans (by have:=f 3 _ rfl;rw[<-this];congr 2;omega);have K:N wr b (a+k*5+4) (.slice r (l_ p.J) s):=(c.o.cell (p:=a_ b (a+k*5+4)) g).trans (by have:=f 4 _ rfl;rw[<-this];congr 2;omega);have B:Hid (Y 73 #[.agg (Cs p r s)] wr (p9 p)):=O (hb p (gV d) _ wr ⟨_,rfl,o.up c.o⟩);have t:=O d;have J:0<=(k:Int):=U;have X:(k:Int)<l_ ps:=U;clear y f o d;go_wp2_with fail;refine B.o.mono ?_;rintro e L ⟨rfl,v⟩;have x:Hid (G w L):=O (b_ c.o v);clear v E F H I K B
  cases h:p9 p with
  |true=>
   have m:Hid (jd ps=true):=O (Pm t.o h);clear h;go_wp2;go_ret;exact⟨_,rfl,by rw[m.o];simp,x.o⟩
  |false=>
   have m:Hid (jd (ps.take (k+1))=false):=O (MS t.o q.o h);clear h;go_wp2;go_roundw;exact⟨k+1,U,R,m,x⟩;exact M
 ·(obtain rfl:k=l_ ps:=by omega);go_wp2;go_ret;refine⟨_,rfl,?_,c.o⟩;have:=q.o;rw[jy]at this;rw[this];simp
def MU(ps:List Cn)(A:J_)(cap:Nat)(w:W_)(h:z 181 #[.slice A (l_ ps) cap,.func (.func 73) #[] #[]] w λe w'=>∃n:Int,e=.returned n/\(0<=n↔jd ps=true)/\G w w'):Y 119 #[.slice A (l_ ps) cap,.func (.func 73) #[] #[]] w (jd ps):=by have d:=O h;clear h;go_in;go_wp2_with fail;refine d.o.mono ?_;rintro e j ⟨n,rfl,a,f⟩;have g:=O f;have b:=O a;clear f d a;by_cases i:0<=n;(.go_wp2;go_ret;exact⟨by rw[b.o.1 i];rfl,g.o⟩);.go_wp2;go_ret;have c:¬0<=n:=U;have H:decide (0<=n)=false:=sj c;rw[H];exact⟨by rw[show jd ps=false by cases hb:jd ps with|false=>rfl|true=>exact absurd (b.o.2 hb) c];rfl,g.o⟩
def Gf(c:Cn):Zw c:=by
 induction c using Cn.ind with
 |h c k=>
  intro v w D;obtain⟨A,cap,rfl,o,q,r⟩:=D.form
  have g:Hid (z 181 #[.slice A (l_ c.J) cap,.func (.func 73) #[] #[]] (w.alloc (.cells (Cs c A cap) 27)) λe w'=>∃n:Int,e=.returned n/\(0<=n↔jd c.J=true)/\Below (w.alloc (.cells (Cs c A cap) 27)).heap.size (w.alloc (.cells (Cs c A cap) 27)) w'):=O (JD c.J k A cap _ o q λs=>by
    obtain⟨b,l,e,hb,H⟩:=r s;refine⟨b,l,e,by simp;omega,λi p t=>?_⟩;obtain⟨x,y,B⟩:=H i p t
    exact⟨x,λj u C=>(bA.cell (p:=a_ b (l+5*i+j)) hb).trans (y j u C),B.up bA⟩)
  have f:p9 c=if c.K=4 then true else if c.K=5 then jd c.J else false:=(by cases c;rfl);clear D r k o q;by_cases a:c.K=4;(.rw[show p9 c=true by rw[f,P_ a]];rw[a]at g ⊢;go_in;go_wp2;go_ret;exact⟨rfl,bA⟩);.by_cases d:c.K=5;(.rw[show p9 c=jd c.J by rw[f,C_ a,P_ d]];rw[d]at g ⊢;clear a d f;go_in;go_wp2_with fail;refine(MU _ _ _ _ g.o).mono ?_;rintro e E ⟨rfl,m⟩;have F:G w E:=(b_ bA m);clear m g;go_wp2;go_ret;exact⟨rfl,F⟩);.rw[show p9 c=false by rw[f,C_ a,C_ d]];have J:(c.K==4)=false:=Q a;have I:(c.K==5)=false:=Q d;clear f a d;go_in;go_wp2;go_ret;exact⟨rfl,bA⟩
def kG(w w':W_):Prop:=∃q os,w'=grow (w.drewN q) os
def kG.refl(w:W_):kG w w:=⟨0,#[],by unfold grow World.drewN;simp⟩
def kG.trans{a c:W_}(h:kG a b)(k:kG b c):kG a c:=by obtain⟨q,os,rfl⟩:=h;obtain⟨d,e,rfl⟩:=k;exact⟨q+d,os++e,by unfold grow World.drewN;simp[Array.append_assoc,gq_]⟩
def kG.al{a:W_}(h:kG a b)(o:Obj):kG a (b.alloc o):=h.trans ⟨0,#[o],by unfold grow World.drewN World.alloc;simp⟩
def kG.drew{a:W_}(h:kG a b):kG a b.drew:=h.trans ⟨1,#[],by unfold grow World.drewN World.drew;simp⟩
theorem kG.below{a:W_}(h:kG a b):G a b:=by obtain⟨q,os,rfl⟩:=h;refine⟨rfl,rfl,rfl,by simp[grow,World.drewN],λk c=>?_⟩;show(a.heap++os)[k]?=_;grind
mutual
def su(w:W_):Cn->O_->Prop
 | .mk k n l h ps,cs=>∃A cap B ad5,cs=[.int .i64 k,d_ n,.int .i64 l,.int .i64 h,.slice A (l_ ps) cap,.int .i64 (Cn.sizes ps+1:Nat),.slice B (l_ ps) ad5]/\ nV w (.mk k n l h ps) [.int .i64 k,d_ n,.int .i64 l,.int .i64 h,.slice A (l_ ps) cap]/\l_ ps<=ad5/\ad5<=m_/\ (0<l_ ps->∃b off,B=some ⟨b,off,none⟩/\b<w/\xG w ps b off)
def xG(w:W_):List Cn->Nat->Nat->Prop
 |[],_,_=>True
 |c::l,b,off=>(∃cs,(∀(j:Nat) u,cs[j]?=some u->N w b (off+j) u)/\su w c cs)/\xG w l b (off+7)
end
section
variable{b:O_}
variable{w w':W_}
theorem su.up(h:su w c a)(hb:G w w'):su w' c a:=by suffices q:∀a,su w c a->su w' c a from q a h;clear h;refine Cn.rec (motive_1:=λc=>∀a,su w c a->su w' c a) (motive_2:=λps=>∀b d,b<w.heap.size->xG w ps b d->xG w' ps b d) ?_ ?_ ?_ c;(.intro k n l g ps r a h;unfold su at h ⊢;obtain⟨A,cap,B,y,e,s,i,m,t⟩:=h;refine⟨A,cap,B,y,e,s.up hb,i,m,λhl=>?_⟩;have⟨b,d,v,f,o⟩:=t hl;exact⟨b,d,v,qO f hb.size,r b d f o⟩);(.intro b d _ _;unfold xG;grind);.intro c l i m b d f h;unfold xG at h ⊢;obtain⟨⟨a,H,o⟩,h⟩:=h;exact⟨⟨a,λj u x=>(hb.cell (p:=a_ b (d+j)) f).trans (H j u x),i a o⟩,m b _ f h⟩
def xG.get:∀{ps:List Cn}{b d:Nat},xG w ps b d->∀{i:Nat}{p:Cn},ps[i]?=some p->∃a,(∀(j:Nat) u,a[j]?=some u->N w b (d+7*i+j) u)/\su w p a
 |[],_,_,_,_,_,hi=>by simp at hi
 |c::l,b,d,h,0,p,hi=>by
  simp at hi;subst hi;unfold xG at h;simpa using h.1
 |c::l,b,d,h,i+1,p,hi=>by
  unfold xG at h;have⟨a,e,f⟩:=xG.get h.2 (i:=i) (p:=p) (Q hi);exact⟨a,λj u g=>by rw[<-e j u g];congr 2;omega,f⟩
def xG.of:∀{ps:List Cn}{b g:Nat},(∀i p,ps[i]?=some p->∃a,(∀(j:Nat) u,a[j]?=some u->N w b (g+7*i+j) u)/\su w p a)->xG w ps b g
 |[],_,_,_=>by unfold xG;trivial
 |c::l,b,g,h=>by
  unfold xG;have⟨a,d,e⟩:=h 0 c rfl;refine⟨⟨a,λj u f=>by have:=d j u f;simpa using this,e⟩,xG.of λi p k=>?_⟩;have⟨a,d,e⟩:=h (i+1) p (Q k);exact⟨a,λj u f=>by rw[<-d j u f];congr 2;omega,e⟩
def su.cells(h:su w c b):∃A cap B a,b=[.int .i64 c.K,d_ c.N,.int .i64 c.lo,.int .i64 c.hi,.slice A (l_ c.J) cap,.int .i64 (c.size:Nat),.slice B (l_ c.J) a]:=by obtain⟨k,n,l,g,ps⟩:=c;unfold su at h;obtain⟨A,cap,B,a,rfl,_⟩:=h;exact⟨A,cap,B,a,rfl⟩
def su.form(h:su w c a):∃A cap B d,a=[.int .i64 c.K,d_ c.N,.int .i64 c.lo,.int .i64 c.hi,.slice A (l_ c.J) cap,.int .i64 (c.size:Nat),.slice B (l_ c.J) d]/\ nV w c [.int .i64 c.K,d_ c.N,.int .i64 c.lo,.int .i64 c.hi,.slice A (l_ c.J) cap]/\l_ c.J<=d/\d<=m_/\ (0<l_ c.J->∃b e,B=some ⟨b,e,none⟩/\b<w/\∀i p,c.J[i]?=some p->∃a,(∀(j:Nat) u,a[j]?=some u->N w b (e+7*i+j) u)/\su w p a):=by obtain⟨k,n,l,g,ps⟩:=c;unfold su at h;obtain⟨A,cap,B,d,rfl,f,m,o,q⟩:=h;refine⟨A,cap,B,d,rfl,f,m,o,λhl=>?_⟩;have⟨b,e,r,v,s⟩:=q hl;exact⟨b,e,r,v,λi p t=>s.get t⟩
def su.mk{B:J_}{d:Nat}(f:nV w c [.int .i64 c.K,d_ c.N,.int .i64 c.lo,.int .i64 c.hi,.slice A (l_ c.J) cap])(h:l_ c.J<=d)(m:d<=m_)(o:0<l_ c.J->∃b a,B=some ⟨b,a,none⟩/\b<w/\∀i p,c.J[i]?=some p->∃e,(∀(j:Nat) u,e[j]?=some u->N w b (a+7*i+j) u)/\su w p e):su w c [.int .i64 c.K,d_ c.N,.int .i64 c.lo,.int .i64 c.hi,.slice A (l_ c.J) cap,.int .i64 (c.size:Nat),.slice B (l_ c.J) d]:=by obtain⟨k,n,l,g,ps⟩:=c;unfold su;refine⟨A,cap,B,d,rfl,f,h,m,λhl=>?_⟩;have⟨b,a,q,s,r⟩:=o hl;exact⟨b,a,q,s,xG.of r⟩
def su.len(h:su w c a):l_ a=7:=by obtain⟨A,cap,B,b,rfl⟩:=h.cells;rfl
def su.one(h:su w c a):∀u∈a,u.oneCell'=true:=by obtain⟨A,cap,B,d,rfl⟩:=h.cells;intro u b;simp at b;rcases b with rfl|rfl|rfl|rfl|rfl|rfl|rfl<;>rfl
def TV(w:W_)(v:V_)(c:Cn):Prop:=∃C,v=.agg C.toArray/\su w c C
end
section
variable{w w':W_}{base:Nat}{v:V_}{ps:List (O_×Cn)}
theorem VB:∀{l:List α}(_:∀x∈l,l_ (f x)=k){i:Nat}{x:α}(_:l[i]?=some x){j:Nat}{u:V_}(_:(f x)[j]?=some u),(l.flatMap f)[i*k+j]?=some u
 |[],_,i,x,hi,_,_,_=>by simp at hi
 |a::l,hk,0,x,hi,j,u,hj=>by
  simp at hi;subst hi;have d:=(jv.1 hj).1;rw[OD,cz_ U];simpa using hj
 |a::l,hk,i+1,x,hi,j,u,hj=>by
  have b:=hk a S;rw[OD,db_ (by grind),b,show(i+1)*k+j-k=i*k+j by rw[dx_];omega];exact VB (λy c=>hk y (by simp[c])) (Q hi) hj
theorem Zx{base n:Nat}(h:w.ownsRow base e k v n (l.flatMap f))(q:0<n)(b:∀x∈l,l_ (f x)=k):∃g cap,v=.slice (a_ g 0) n cap/\base<=g/\g<w/\n<=cap/\cap<=m_/\∀i x,l[i]?=some x->∀(j:Nat) u,(f x)[j]?=some u->N w g (i*k+j) u:=by rcases h.2 with⟨_,r⟩|⟨g,cap,y,rfl,hb,c,p,d,s,t⟩;(.omega);.refine⟨g,cap,rfl,hb,(yZ.1 c).1,p,d,λi x hi j u m=>?_⟩;have o:=VB b hi m;have a:=h.cells (g:=g) rfl (i*k+j) u o;rw[add_lit,Jc]at a;grind
end
theorem nV.kp(h:nV w c a)(o:∀k,k<w.heap.size->w'.heap[k]?=w.heap[k]?)(f:(w:Nat)<=w'):nV w' c a:=by have hb:G w {w with heap:=w'.heap}:=⟨rfl,rfl,rfl,f,o⟩;have:=h.up hb;(have K:∀(c:Cn)(a:O_),nV {w with heap:=w'.heap} c a->nV w' c a:=λc a h=>by suffices f:∀a,nV {w with heap:=w'.heap} c a->nV w' c a from f a h;clear h;refine Cn.rec (motive_1:=λc=>∀a,nV {w with heap:=w'.heap} c a->nV w' c a) (motive_2:=λps=>∀b d,qI {w with heap:=w'.heap} ps b d->qI w' ps b d) ?_ ?_ ?_ c;(.intro k n l g ps p a h;unfold nV at h ⊢;grind);(.intro b d _;unfold qI;grind);.intro c l i j b d h;unfold qI at h ⊢;obtain⟨⟨a,H,m⟩,h⟩:=h;exact⟨⟨a,H,i a m⟩,j b _ h⟩);grind
def A8(Q:Nat->Prop)(row:Option Nat)(w:W_)(c:Cn)(C:O_):Prop:=∃Z:Nat->Prop,(∀k,Z k->Q k/\k<w/\some k≠row)/\∀W:W_,(∀k,Z k->W.heap[k]?=w.heap[k]?)->(w:Nat)<=W->su W c C
section
variable{f:Option Nat}
variable{Q:Nat->Prop}{row:Option Nat}{w w':W_}{c:Cn}{cs:O_}
theorem A8.rd(h:A8 Q row w c cs):su w c cs:=by obtain⟨Z,_,a⟩:=h;grind
def A8.kept(h:A8 Q row w c cs)(d:w.grownBy w' row):A8 Q row w' c cs:=by obtain⟨Z,b,f⟩:=h;have e:=d.size;exact⟨Z,λk a=>⟨(b k a).1,qO (b k a).2.1 e,(b k a).2.2⟩,λW g i=>f W (λk a=>(g k a).trans (d.block k (b k a).2.1 (b k a).2.2)) (gY e i)⟩
theorem A8.move(h:A8 Q row w c cs)(d:w.grownBy w' row)(i:f=row\/f=some w):A8 Q f w' c cs:=by rcases i with rfl|rfl;(.exact h.kept d);.have⟨Z,o,p⟩:=h.kept d;obtain⟨j,b,l⟩:=h;have g:=d.size;refine⟨j,λk a=>⟨(b k a).1,qO (b k a).2.1 g,λe=>?_⟩,λW m n=>l W (λk a=>(m k a).trans (d.block k (b k a).2.1 (b k a).2.2)) (gY g n)⟩;grind
def A8.up(h:A8 Q row w c cs)(hb:G w w'):A8 Q row w' c cs:=by obtain⟨Z,b,d⟩:=h;exact⟨Z,λk a=>⟨(b k a).1,qO (b k a).2.1 hb.size,(b k a).2.2⟩,λW e f=>d W (λk a=>(e k a).trans (hb.block k (b k a).2.1)) (gY hb.size f)⟩
theorem A8.far(h:A8 Q row w c cs)(f:¬Q p.block):A8 Q row (w.setCell p u) c cs:=by obtain⟨Z,b,g⟩:=h;(have d:(w.setCell p u).heap.size=w:=by simp[World.setCell]);exact⟨Z,λk a=>⟨(b k a).1,by rw[d];exact(b k a).2.1,(b k a).2.2⟩,λW i j=>g W (λk a=>(i k a).trans (Fg w p u k (λe=>f (e ▸ (b k a).1)))) (by grind)⟩
end
def jK(Q:Nat->Prop)(base:Nat)(w:W_)(v:V_)(ps:List (O_×Cn)):Prop:=w.ownsRow base 130 7 v (l_ ps) (ps.flatMap (·.1))/\∀p∈ps,A8 Q v.ownBlock w p.2 p.1
def jK.snoc{Q:Nat->Prop}{base:Nat}{w w':W_}{v v':V_}{ps:List (O_×Cn)}{c:Cn}{C:O_}(h:jK Q base w v ps)(d:w'.ownsRow base 130 7 v' (l_ ps+1) (ps.flatMap (·.1)++C))(b:w.grownBy w' v.ownBlock)(hb:v'.ownBlock=v.ownBlock\/v'.ownBlock=some w)(H:A8 Q v.ownBlock w c C):jK Q base w' v' (ps++[(C,c)]):=by refine⟨by simpa[Zb]using d,λp a=>?_⟩;rcases iq.1 a with a|a;(.exact(h.2 p a).move b hb);.rw[gW.1 a];exact H.move b hb
def RdZ(Z:Nat->Prop)(w w':W_)(c:Cn)(C:O_):Prop:=∀W:W_,(∀k,(Z k\/(w<=k/\k<w'))->W.heap[k]?=w'.heap[k]?)->(w':Nat)<=W->su W c C
theorem RdZ.apT(h:RdZ Z w w' c C){Q:Nat->Prop}(b:∀k,Z k\/w<=k->Q k)(d:∀k,Z k->k<w)(j:(w:Nat)<=w')(f:∀k,row=some k->¬Z k/\k<w):A8 Q row w' c C:=
 ⟨λk=>Z k\/(w<=k/\k<w'),λk a=>⟨b k (a.imp id (·.1)),by rcases a with a|a;(.grind);(.grind),λe=>by
  have:=f k e.symm;rcases a with a|a;.exact this.1 a
  .omega⟩,λW g i=>h W g i⟩
def CZ(Z:Nat->Prop)(w:W_)(c:Cn)(C:O_):Prop:=(∀k,Z k->k<w)/\∀W:W_,(∀k,Z k->W.heap[k]?=w.heap[k]?)->(w:Nat)<=W->nV W c C
def CZ.rd(h:CZ Z w c C):nV w c C:=h.2 w (λ_ _=>rfl) (gH _)
def CZ.kp(h:CZ Z w c C)(d:∀k,Z k->w'.heap[k]?=w.heap[k]?)(b:(w:Nat)<=w'):CZ Z w' c C:=⟨λk a=>qO (h.1 k a) b,λW e f=>h.2 W (λk a=>(e k a).trans (d k a)) (gY b f)⟩
def CZ.up(h:CZ Z w c C)(hb:G w w'):CZ Z w' c C:=h.kp (λk a=>hb.block k (h.1 k a)) hb.size
def CZ.mono{a:Nat->Prop}(h:CZ Z w c C)(b:∀k,Z k->a k)(hb:∀k,a k->k<w):CZ a w c C:=⟨hb,λW d f=>h.2 W (λk e=>d k (b k e)) f⟩
def nV.VD{a:W_}(h:nV a c C)(H:G a w):CZ (λk=>k<a) w c C:=⟨λ_ b=>qO b H.size,λ_ d e=>h.kp (λk b=>(d k b).trans (H.block k b)) (gY H.size e)⟩
def CZ.J{G:O_}{n:Nat}(h:CZ Z w c G)(x:G[4]?=some (.slice A n cap))(q:0<l_ c.J):∃b d,A=some ⟨b,d,none⟩/\Z b/\∀i p,c.J[i]?=some p->∃a,(∀(j:Nat) u,a[j]?=some u->N w b (d+5*i+j) u)/\CZ Z w p a:=by
 obtain⟨k,O,l,g,ps⟩:=c;have y:=h.rd;unfold nV at y;obtain⟨Q,al,rfl,Y,ai,F⟩:=y;simp at x;obtain⟨rfl,rfl,rfl⟩:=x;obtain⟨b,d,rfl,T,R⟩:=F q;have z:∀W:W_,(∀k,Z k->W.heap[k]?=w.heap[k]?)->(w:Nat)<=W->qI W ps b d:=λW f r=>by have B:=h.2 W f r;unfold nV at B;obtain⟨aj,an,e,_,_,H⟩:=B;have⟨U,am,I,_,K⟩:=H q;simp at e;rw[I]at e;simp at e;obtain⟨⟨rfl,rfl⟩,_⟩:=e;exact K
 have E:Z b:=by
  by_cases C:Z b;(.exact C);exfalso;have X:=g_ q;obtain⟨p,m⟩:=X
  have⟨a,D,t⟩:=(z {w with heap:=w.heap.setIfInBounds b (.cells #[] 27)} (λk L=>by
   show(w.heap.setIfInBounds b _)[k]?=_
   rw[ek_,C_ (show ¬b=k from λe=>C (by grind))]) S).get m
  obtain⟨P,c2,rfl⟩:=t.cells;have:=D 0 _ rfl;simp[World.cell?,T]at this
 refine⟨b,d,rfl,E,λi p m=>?_⟩;have⟨a,D,t⟩:=(z w (λ_ _=>rfl) (gH _)).get m;refine⟨a,D,h.1,λW f r=>?_⟩;have⟨ak,J,v⟩:=(z W f r).get m;obtain⟨P,c2,rfl⟩:=t.cells;obtain⟨V,c3,rfl⟩:=v.cells;(have M:∀o,W.cell? (a_ b o)=w.cell? (a_ b o):=λo=>by unfold World.cell?;grind);have s:=(J 4 _ rfl).symm.trans ((M _).trans (D 4 _ rfl));injection s with s;rwa[s]at v
def rF(Z:Nat->Prop)(w:W_)(c:Cn)(e:Ending)(w':W_):Prop:=∃C:O_,e=.returned (.agg C.toArray)/\RdZ Z w w' c C/\G w w'
def adC:(prog.info? 130).map (λi=>(i.zero,i.size,i.bytes))=some (some (.agg #[V 0,x_,V 0,V 0,(),V 0,()]),7,96):=k_
def y9(w:W_)(n:Nat)(b:n=w)(t:T_)(a:O_):∀(j:Nat)(x:V_),a[j]?=some x->(w.alloc (.cells a.toArray t)).cell? ((n:Addr).add j)=some x:=by subst b;intro j x h;rw[add_lit,ji];simpa using h
def jm{a:A_}(h:f_ w g t a)(hi:a[i]?=some u):w.setCell (a_ g i) u=w:=by(have c:(w.setCell (a_ g i) u).heap=w.heap:=by(refine Array.ext_getElem? λk=>?_);by_cases b:k=g;(.subst b;refine(h.iK i u).trans (Eq.trans ?_ h.symm);congr 2;(refine Array.ext_getElem? λj=>?_);rw[ek_];split;(.rename_i e;subst e;split;(.exact hi.symm);.rename_i d;have:=(yZ.1 hi).1;exact absurd this d);.rfl);.exact Fg w _ u k b);have hw:w.setCell (a_ g i) u={w with heap:=(w.setCell (a_ g i) u).heap}:=rfl;rw[hw,c]
def seven{a b c d e f i:V_}(h:f_ w g t #[a,b,c,d,e,f,i]):N w g 0 a/\N w g 1 b/\N w g 2 c/\N w g 3 d/\N w g 4 e/\N w g 5 f/\N w g 6 i:=⟨h.cell 0,h.cell 1,h.cell 2,h.cell 3,h.cell 4,h.cell 5,h.cell 6⟩
def gT(w:W_)(p:Addr)(u:V_):w.grownBy (w.setCell p u) (some p.block):=⟨rfl,rfl,rfl,by simp[World.setCell],λk _ a=>Fg w p u k λe=>a (by rw[e])⟩
def jK.far{Q:Nat->Prop}{ps:List (O_×Cn)}(h:jK Q base w v ps)(a:¬Q p.block)(hb:p.block<base):jK Q base (w.setCell p u) v ps:=⟨h.1.kept (gT w p u) (.inr λe=>by have:=(h.1.lt _ e).1;omega),λq b=>(h.2 q b).far a⟩
def jK.al{Q:Nat->Prop}{ps:List (O_×Cn)}(h:jK Q base w v ps)(o:Obj):jK Q base (w.alloc o) v ps:=⟨gJ h.1 bA,λq a=>(h.2 q a).up bA⟩
def CO(Z:Nat->Prop)(c:Cn):∀(ac:O_)(w:W_),CZ Z w c ac->c.size<=100000->z 75 #[.agg ac.toArray] w (rF Z w c):=by
 induction c using Cn.ind with
 |h c au=>
  intro ac w Y bM;obtain⟨A,cap,aV,bS,bu,_⟩:=Y.rd.cv.form;(obtain rfl:ac=(Cs c A cap):=by injection aV with e;have:=iM Array.toList e;simpa using this);have a1:=Y.J (A:=A) (n:=l_ c.J) (cap:=cap) rfl;unfold m_ at bu;have T:Hid (∀k,Z k->k<w):=O Y.1
  obtain⟨Q,av,aC⟩:∃Q:Nat->Prop,(∀k,Q k↔(Z k\/w+2<=k))/\¬Q (w+1):=⟨λk=>Z k\/w+2<=k,λ_=>Iff.rfl,λh=>by
   rcases h with h|h;.have:=Y.1 _ h;omega
   .omega⟩
  have aw:=O av;have am:=O aC;have bf:=lD c.J;have aD:=size_eq c;have a2:=O a1;have bg:=O au;have bh:=O Y;have aE:=O aD;have bE:l_ c.J<=100000:=U;obtain⟨i0,hi,bi,bj,bk⟩:=qw adC;clear a1 au Y bf aD aV av aC;go_in;go_wp2_with fail;obtain⟨t,I⟩:=e_ ((w.alloc (.cells (Cs c A cap) 27)).alloc (.cells #[c.K,c.N,c.lo,c.hi,.slice A (l_ c.J) cap,V 1,()] 130));(have aF:f_ t (w+1) 130 #[c.K,c.N,c.lo,c.hi,.slice A (l_ c.J) cap,V ((1+Cn.sizes (c.J.take 0):Nat):Int),()]:=by rw[<-I];simpa[Cn.sizes]using f_.newAt (L_ w 27 (Cs c A cap)) 130 #[c.K,c.N,c.lo,c.hi,.slice A (l_ c.J) cap,V 1,()] (n:=w.heap.size+1) S);(have aG:G w t:=by rw[<-I];exact X_ bA _);(have an:w.heap.size+2<=t.heap.size:=by rw[<-I];simp);rw[I];have aH:Hid (G w t/\f_ t (w+1) 130 #[c.K,c.N,c.lo,c.hi,.slice A (l_ c.J) cap,V ((1+Cn.sizes (c.J.take 0):Nat):Int),()]/\jK Q (w+2) t () []/\([]:List (O_×Cn)).map (·.2)=c.J.take 0):=O ⟨aG,aF,⟨Ce _ _ _ _,λ_ h=>by cases h⟩,rfl⟩;clear I aF aG;go_loopw [11] (λi wr=>∃(k:Nat)(m:V_)(ps:List (O_×Cn)),k<=l_ c.J/\i=.int .i64 (k:Int)/\w.heap.size+2<=wr.heap.size/\Hid (G w wr/\f_ wr (w+1) 130 #[c.K,c.N,c.lo,c.hi,.slice A (l_ c.J) cap,V ((1+Cn.sizes (c.J.take k):Nat):Int),m]/\jK Q (w+2) wr m ps/\ps.map (·.2)=c.J.take k)) (λi _=>l_ c.J-(intOf i).toNat);exact⟨0,_,[],gZ _,rfl,an,aH⟩;clear aH an;obtain⟨k,m,ps,r,rfl,an,l⟩:=hrel;by_cases bl:k<l_ c.J
  .obtain⟨b,o,rfl,aI,aZ⟩:=a2.o U
   obtain⟨p,s⟩:=g_ bl;obtain⟨ax,E,ao⟩:=aZ k p s;obtain⟨X,aa,rfl⟩:=ao.rd.cells;have x:G w wr:=l.o.1;have F:b<w:=T.o b aI;have a3:N wr b (o+k*5) p.K:=(x.cell (p:=a_ b (o+k*5)) F).trans (by have:=E 0 _ rfl;rw[<-this];congr 2;omega);have ag:N wr b (o+k*5+1) (d_ p.N):=(x.cell (p:=a_ b (o+k*5+1)) F).trans (by have:=E 1 _ rfl;rw[<-this];congr 2;omega);have ah:N wr b (o+k*5+2) p.lo:=(x.cell (p:=a_ b (o+k*5+2)) F).trans (by have:=E 2 _ rfl;rw[<-this];congr 2;omega);have a4:N wr b (o+k*5+3) p.hi:=(x.cell (p:=a_ b (o+k*5+3)) F).trans (by have:=E 3 _ rfl;rw[<-this];congr 2;omega);have a5:N wr b (o+k*5+4) (.slice X (l_ p.J) aa):=(x.cell (p:=a_ b (o+k*5+4)) F).trans (by have:=E 4 _ rfl;rw[<-this];congr 2;omega);have bN:=Cn.lu (gV s);have aq:=qJ s;have bT:=aE.o;have aJ:=O s;have r1:0<=(k:Int):=U;have bF:(k:Int)<l_ c.J:=U;have a0:Hid (z 75 #[.agg (Cs p X aa)] (L_ wr 27 (Cs p X aa)) (rF Z (L_ wr 27 (Cs p X aa)) p)):=O (bg.o p (gV s) _ _ ((ao.up x).up bA) U);clear aZ E ao s x F aI;go_wp2_with fail;refine a0.o.mono ?_;rintro e f ⟨ax,rfl,ai,K⟩;have aW:su f p ax:=ai f (λ_ _=>rfl) (gH _);obtain⟨a6,bv,a7,bC,rfl⟩:=aW.cells;(have bO:wr.heap.size+1<=f.heap.size:=by have:=K.size;simpa using this);have L:f_ f (w+1) 130 #[c.K,c.N,c.lo,c.hi,.slice (a_ b o) (l_ c.J) cap,V ((1+Cn.sizes (c.J.take k):Nat):Int),m]:=(l.o.2.1.alloc _).below K;have ae:Below wr wr f:=b_ (X_ (fu _ _) _) K;have aX:G w f:=b_ l.o.1 ae;have aK:jK Q (w+2) f m ps:=⟨gJ l.o.2.2.1.1 ae,λq B=>(l.o.2.2.1.2 q B).up ae⟩
   have aL:A8 Q m.ownBlock f p _:=ai.apT (λk r=>(aw.o k).2 (r.imp id λh=>by simp at h;omega)) (λk r=>by have:=T.o k r;simp;omega) K.size (λj v=>by
    have:=l.o.2.2.1.1.lt j v
    exact⟨λh=>by have:=T.o j h;omega,by simp;omega⟩)
   have aM:=O L;have aN:=O aX;have ap:=O aK;have aO:=O aL;have bm:N f (w+1) 5 (V ((1+Cn.sizes (c.J.take k):Nat):Int)):=L.cell 5;have bn:N f (w+1) 6 m:=L.cell 6;have bo:=L.frozen 5;have bU:w.heap.size+1<f.heap.size:=U;have s2:((1+Cn.sizes (c.J.take k):Nat):Int)<=100000:=U;have s4:((p.size:Nat):Int)<=100000:=U;clear ai K L aX ae aK aL aW a3 ag ah a4 a5 a0;have ay:Hid (jK Q (w+2) (f.setCell (a_ (w+1) 5) (.int .i64 (1+(Cn.sizes (c.J.take k):Nat)+(p.size:Nat)))) m ps):=O (ap.o.far am.o (by simp only;omega));have bw:Hid (A8 Q m.ownBlock (f.setCell (a_ (w+1) 5) (.int .i64 (1+(Cn.sizes (c.J.take k):Nat)+(p.size:Nat)))) p _):=O (aO.o.far am.o);have aP:Hid (G w (f.setCell (a_ (w+1) 5) (.int .i64 (1+(Cn.sizes (c.J.take k):Nat)+(p.size:Nat))))):=O (aN.o.setCell (by simp only;omega) _);have bx:Hid (f_ (f.setCell (a_ (w+1) 5) (.int .i64 (1+(Cn.sizes (c.J.take k):Nat)+(p.size:Nat)))) (w+1) 130 #[c.K,c.N,c.lo,c.hi,.slice (a_ b o) (l_ c.J) cap,V (1+(Cn.sizes (c.J.take k):Nat)+(p.size:Nat)),m]):=O (by have:=aM.o.iK 5 (.int .i64 (1+(Cn.sizes (c.J.take k):Nat)+(p.size:Nat)));simpa using this);(have y:l_ ps=k:=by have:=iM l_ l.o.2.2.2;rw[qm,wE]at this;omega);(have aQ:∀j,m.ownBlock=some j->w+2<=j:=λj v=>(ap.o.1.lt j v).1);have aR:=O aQ;have a8:=O l.o.2.2.2;clear ap aO aN aM aQ l;go_wp2_with (at_builtin;refine wpList_append_own_at _ rfl _ _ 128 rfl (w+2) 130 i0 (.agg #[V 0,x_,V 0,V 0,(),V 0,()]) 7 96 underlying128 hi bi bj bk rfl D _ _ _ rfl ((ay.o.al _).al _).1 (a_ (f+1) 0) 1 1 [.int .i64 p.K,.string ⟨p.N.toArray⟩,.int .i64 p.lo,.int .i64 p.hi,.slice a6 (l_ p.J) bv,.int .i64 (p.size:Nat),.slice a7 (l_ p.J) bC] rfl rfl ?c1 ?c2 ?c3 ?c4 ?c5 ?_);(case c1=>exact y9 _ _ (by simp[World.setCell]) _ _);(case c2=>intro u az;simp at az;rcases az with rfl|rfl|rfl|rfl|rfl|rfl|rfl<;>rfl);(case c3=>simp only[m_];omega);(case c4=>omega);(case c5=>simp[World.setCell];omega);intro v' w' ar P _ aS;have aY:=jK.snoc ((ay.o.al _).al _) (by rwa[y]) P (by simpa[World.setCell]using aS) ((bw.out.up (X_ (fu _ _) _)).up (X_ (fu _ _) _));have aT:G w w':=(X_ (X_ aP.o _) _).grown P (by have:=aP.o.size;simp at this ⊢;omega) (λj v=>by have:=aR.o j v;omega);have af:f_ w' (w+1) 130 #[c.K,c.N,c.lo,c.hi,.slice (a_ b o) (l_ c.J) cap,V (1+(Cn.sizes (c.J.take k):Nat)+(p.size:Nat)),m]:=((bx.o.alloc _).alloc _).grown P (λe=>by have:=aR.o _ e.symm;omega);have c6:N w' (w+1) 6 m:=af.cell 6;have f6:=af.frozen 6;(have bz:w.heap.size+2<=w'.heap.size:=by have:=P.size;simp[World.setCell]at this;omega);have a9:=O aY;have bp:=O aT;have d:=O af;obtain⟨C,J,ad⟩:=n_ ar;subst ad;clear aY aT af ar P aS bm bn bo;go_wp2;go_roundw;refine⟨k+1,_,ps++[(_,p)],U,R,by simpa[World.setCell]using bz,O ⟨bp.o.setCell (by simp only;omega) _,?_,a9.o.far am.o (by simp only;omega),by rw[wO,a8.o,DL,aJ.o];rfl⟩⟩;have H:=d.o.iK 6 (.slice C (l_ ps+1) J);(have aA:(1+(Cn.sizes (c.J.take k):Nat)+(p.size:Nat):Int)=((1+Cn.sizes (c.J.take (k+1)):Nat):Int):=by rw[lW aJ.o];omega);rw[aA,y]at H;simpa using H;exact M
  ·(obtain rfl:k=l_ c.J:=by omega);have d:=O l.o.2.1;obtain⟨C,J,ad⟩:=n_ l.o.2.2.1.1;(have y:l_ ps=l_ c.J:=by have:=iM l_ l.o.2.2.2;rw[qm,wE]at this;omega);rw[y]at ad;subst ad;(have aq:((1+Cn.sizes (c.J.take (l_ c.J)):Nat):Int)=((c.size:Nat):Int):=by rw[jy,aE.o];omega);rw[aq]at d l;obtain⟨a',g1,ba,g3,g4,bb,bc⟩:=seven d.o;have bG:=d.o.frozen 0;have bH:=d.o.frozen 1;have bI:=d.o.frozen 2;have bJ:=d.o.frozen 3;have bK:=d.o.frozen 4;have bL:=d.o.frozen 5;have f6:=d.o.frozen 6;clear y aq;go_wp2_with fail;(have bd:(((((((wr.setCell (a_ (w+1) 0) (.int .i64 c.K)).setCell (a_ (w+1) 1) (.string ⟨c.N.toArray⟩)).setCell (a_ (w+1) 2) (.int .i64 c.lo)).setCell (a_ (w+1) 3) (.int .i64 c.hi)).setCell (a_ (w+1) 4) (.slice A (l_ c.J) cap)).setCell (a_ (w+1) 5) (.int .i64 (c.size:Nat))).setCell (a_ (w+1) 6) (.slice C (l_ c.J) J))=wr:=by rw[jm d.o (i:=0) (u:= .int .i64 c.K) rfl,jm d.o (i:=1) (u:= .string ⟨c.N.toArray⟩) rfl,jm d.o (i:=2) (u:= .int .i64 c.lo) rfl,jm d.o (i:=3) (u:= .int .i64 c.hi) rfl,jm d.o (i:=4) (u:= .slice A (l_ c.J) cap) rfl,jm d.o (i:=5) (u:= .int .i64 (c.size:Nat)) rfl,jm d.o (i:=6) (u:= .slice C (l_ c.J) J) rfl]);rw[bd];refine rY (gM rfl _ _ rfl (u:= .agg #[c.K,c.N,c.lo,c.hi,.slice A (l_ c.J) cap,V (c.size:Nat),.slice C (l_ c.J) J]) (by simp[loadVar,go_sem,a',g1,ba,g3,g4,bb,bc])) rfl ?_;refine⟨[.int .i64 c.K,.string ⟨c.N.toArray⟩,.int .i64 c.lo,.int .i64 c.hi,.slice A (l_ c.J) cap,.int .i64 (c.size:Nat),.slice C (l_ c.J) J],rfl,?_,l.o.1⟩;intro W aj bq;obtain⟨H,aA,ab,ak⟩:=l.o;rw[jy]at ak;(have br:∀q∈ps,l_ q.1=7:=λq B=>(ab.2 q B).rd.len);(have y:l_ ps=l_ c.J:=by rw[<-ak,qm]);(have aU:l_ c.J<=J/\J<=m_:=by rcases ab.1.2 with⟨e,aB⟩|⟨g,bB,bP,e,_,_,bQ,bs,_⟩;(.injection e with _ _ e;subst e;rw[y]at aB;exact⟨U,gZ _⟩);.injection e with _ _ e;subst e;exact⟨U,bs⟩);(refine su.mk (bh.o.2 W (λk r=>?_) ?_) aU.1 aU.2 λaB=>?_);(.exact(aj k (.inl r)).trans (H.block k (T.o k r)));(.have:=H.size;omega);.obtain⟨g,bB,e,bR,bt,_,_,bD⟩:=Zx ab.1 U br;injection e with ag _ ah;subst ag ah;refine⟨g,0,rfl,U,λi p s=>?_⟩;(obtain⟨q,B,rfl⟩:∃q,ps[i]?=some q/\q.2=p:=by rw[<-ak,J8]at s;exact Sb.1 s);refine⟨q.1,λj u v=>?_,?_⟩;(.refine(EH (w:=wr) (a:=a_ g (0+7*i+j)) (aj g (.inr ⟨U,bt⟩))).trans ?_;rw[<-bD i q B j u v];congr 2;omega);.obtain⟨Z,be,z2⟩:=ab.2 q (gV B);exact z2 W (λk r=>aj k (by have:=be k r;exact((aw.o k).1 this.1).imp id λh=>U)) bq
def Pn(a:W_)(c:Cn)(v:V_)(w:W_)(H:CV a v c)(h:G a w)(b:c.size<=100000):z 75 #[v] w (rF (λk=>k<a) w c):=by obtain⟨d,rfl,e⟩:=H;exact CO _ c d w (e.VD h) b
section
variable{a:Addr}
attribute [local go_sem] ba_
def Zy(h:w.cell? a=some v):(loadVar 3 a).run prog w=.ok v w:=by simp[loadVar,h]
structure SzI(w:W_)(n:Nat)(W:W_):Prop where
 low:G w W
 r:f_ W (w+1) 3 #[n]
def szI(w:W_)(pre:List Cn)(W:W_):Prop:=SzI w (l_ pre) W
def szX(_:W_):Code->JC:=λ_ _ _=>False
theorem szI.own(H:w+2<=B):OwnFrom B (szI w):=λ_ W c row h a b=>⟨h.low.grown a h.low.size (λk e=>by grind),h.r.keep (a.block _ h.r.lt λe=>by grind)⟩
def szX.own(c:Code):OwnFrom B (szX w c):=λ_ _ _ _ h _ _=>h.elim
def Po(c:Cn)(v:V_)(w:W_)(z:CV w v c)(ae:c.size<=100000):Y 103 #[v] w (V (c.size:Nat)):=by
 refine(yY (n:=4)).1 ?_;obtain⟨A,cap,rfl,M,Q,R⟩:=z.form;clear R M Q;have m:Hid (l_ c.pre=c.size):=O (Cn.ab6 c);have⟨d,h⟩:=e_ (((w.alloc (.cells (Cs c A cap) 27)).alloc (.cells #[V 0] 3)).alloc (.cells (Cs c A cap) 27));(have p:f_ d (w+1) 3 #[V 0]:=by rw[<-h];exact(f_.newAt _ _ _ S).alloc _);(have K:f_ d (w+1+1) 27 (Cs c A cap):=by rw[<-h];exact f_.newAt _ _ _ S);(have s:G w d:=by rw[<-h];exact X_ (X_ bA _) _);(have t:d.heap.size=w.heap.size+3:=by rw[<-h];simp);refine callsIn_of_wp_marks func103 rfl trivial ?_ rfl;simp only[ntmps103,bc_,p8,Mv,Nat.reduceAdd,Nat.reduceSub,bg_,bh_,bi_,bj_,Y8,Ka];gi_wp2_with fail;refine⟨trivial,((yY).2 (Pj c.K c.N c.lo c.hi A (l_ c.J) cap _)).mono ?_⟩;rintro e af ⟨rfl,rfl⟩;gi_wp2_with fail;have L:Hid (szI w [] d):=O ⟨s,p⟩;clear h p
 refine Gc (λq x=>l_ q<c.size) w c (λq x r C=>by rw[<-m.o,C];simp) (w+1+1) c.K c.N c.lo c.hi A (l_ c.J) cap U rfl rfl s K z (szI w) (szX w) (szI.own U) (szX.own) L.o
  (λu a1 W=>a1={tmps:= #[.agg (Cs c A cap),.pointer w,.pointer (a_ (w+1) 0),
   .agg (Cs c A cap),.func (.func 179) #[] #[.pointer (a_ (w+1+1) 0)],u,undef,undef,undef],defers:=[]})
  ?assign ?ap ?body ?done ?stop
 (case assign=>intro lp u x W ag l t f;have j:=O f;clear f;gi_wp2;refine j.o _ _ ?_ (fu _ _);first|rfl|simp);case ap=>rintro u a1 W ah rfl;rfl
 case body=>
  rintro lp pre u x a1 W al am a l P t rfl;have g:=O a;have c1:N W (w+1) 0 (l_ pre):=a.r.cell 0;have E:=a.r.frozen 0;have ai:(l_ pre:Int)<=100000:=U;clear a l P
  have F:Hid (Pk w d (szI w) (szX w) (pre++[x]) W .normal {tmps:= #[],defers:=[]} (W.setCell (a_ (w+1) 0) (.int .i64 ((l_ pre:Int)+1)))):=O
   ⟨⟨by simp[World.setCell],λk o T y _=>(Fg _ _ _ _ (by simp only;omega)).trans y⟩,⟨by simp[World.setCell],λk T y=>Fg _ _ _ _ (by simp only;omega)⟩,⟨g.o.low.setCell (by simp only;omega) _,by have:=g.o.r.iK 0 (.int .i64 ((l_ pre:Int)+1));simpa using this⟩⟩
  gi_wp2_with fail;exact F.o
 (case done=>intro D W H a f;have c1:N W (w+1) 0 (l_ c.pre):=a.r.cell 0;have E:=a.r.frozen 0;have g:=O a;have j:=O f;have an:D≠w.heap.size+1:=U;clear a f;gi_wp2_with fail;have⟨b,i⟩:=e_ (W.setCell (a_ (w+1) 0) (.int .i64 (l_ c.pre:Int)));(have B:b.heap[D]?=some (.deferred (some [])):=by rw[<-i];exact(Fg _ _ _ _ (by simp only;omega)).trans j.o);(have X:G w b:=by rw[<-i];exact g.o.low.setCell (by simp only;omega) _);(have Z:f_ b (w+1) 3 #[l_ c.pre]:=by rw[<-i];have:=g.o.r.iK 0 (.int .i64 (l_ c.pre:Int));simpa using this);rw[i];refine⟨S,.inl ⟨_,_,rfl,run_takeDeferred B,?_⟩⟩;have J:=Z.keep (World.putObj_heap_other (w:=b) (r:=D) (o:= .deferred none) (k:=w.heap.size+1) U);refine⟨_,gM rfl _ _ rfl (Zy (J.cell 0)),?_,X.trans (belowK_b (w:=w) (gH _) b D _ _ U B rfl rfl)⟩;rw[m.o];rfl);case stop=>intro D aj q r W H ak I f;exact I.elim
end
def qg(Z:Nat->Prop)(w:W_)(r:Cn×Int)(e:Ending)(w':W_):Prop:=∃c:O_,e=.returned (.tuple #[.agg c.toArray,r.2])/\CZ (λk=>Z k\/(w<=k/\k<w')) w' r.1 c/\G w w'
def CP(Z:Nat->Prop)(c:Cn):Prop:=∀(C:O_)(w:W_),CZ Z w c C->z 43 #[.agg C.toArray] w (qg Z w (fB c))
def Same(Z:Nat->Prop)(w w':W_):Prop:=(∀k,Z k->w'.heap[k]?=w.heap[k]?)/\(w:Nat)<=w'
section
variable{Z:Nat->Prop}{w w' w'':W_}
def Same.refl(Z:Nat->Prop)(w:W_):Same Z w w:=⟨λ_ _=>rfl,gH _⟩
def Same.below(h:Same Z w w')(b:∀k,Z k->k<w)(hb:G w' w''):Same Z w w'':=⟨λk a=>(hb.block k (qO (b k a) h.2)).trans (h.1 k a),gY h.2 hb.size⟩
def Same.al(h:Same Z w w')(a:∀k,Z k->k<w)(o:Obj):Same Z w (w'.alloc o):=h.below a bA
def Same.st(h:Same Z w w')(b:¬Z p.block)(u:V_):Same Z w (w'.setCell p u):=⟨λk a=>(Fg w' p u k (λe=>b (e ▸ a))).trans (h.1 k a),by simpa[World.setCell]using h.2⟩
def CZ.same(h:CZ Z w c a)(b:Same Z w w'):CZ Z w' c a:=h.kp b.1 b.2
end
def zn(h:nV w c a):∃A cap,a=[.int .i64 c.K,d_ c.N,.int .i64 c.lo,.int .i64 c.hi,.slice A (l_ c.J) cap]/\l_ c.J<=cap/\cap<=m_:=by obtain⟨A,cap,e,b,d,_⟩:=h.cv.form;refine⟨A,cap,?_,b,d⟩;injection e with e;have:=iM Array.toList e;simpa using this
def CZ.nil(w:W_)(Z:Nat->Prop)(a:∀k,Z k->k<w):CZ Z w Cn.nil [.int .i64 0,d_ [],.int .i64 0,.int .i64 0,.slice none 0 0]:=by refine⟨a,λW _ _=>?_⟩;unfold Cn.nil nV;exact⟨none,0,rfl,gZ _,gZ _,λh=>absurd h (fr_ _)⟩
def CZ.mk{k l h:Int}(e:∀k,Z k->k<w)(H:l_ ps<=cap)(m:cap<=m_)(o:0<l_ ps->∃b c,A=some ⟨b,c,none⟩/\Z b/\∀i p,ps[i]?=some p->∃d,(∀(j:Nat) u,d[j]?=some u->N w b (c+5*i+j) u)/\CZ Z w p d):CZ Z w (.mk k n l h ps) [.int .i64 k,d_ n,.int .i64 l,.int .i64 h,.slice A (l_ ps) cap]:=by refine⟨e,λW f g=>?_⟩;unfold nV;refine⟨A,cap,rfl,H,m,λq=>?_⟩;obtain⟨b,c,rfl,hb,r⟩:=o q;refine⟨b,c,rfl,qO (e b hb) g,qI.of λi p hi=>?_⟩;obtain⟨d,s,t⟩:=r i p hi;exact⟨d,λj u v=>(EH (w:=w) (a:=a_ b (c+5*i+j)) (f b hb)).trans (s j u v),t.2 W f g⟩



