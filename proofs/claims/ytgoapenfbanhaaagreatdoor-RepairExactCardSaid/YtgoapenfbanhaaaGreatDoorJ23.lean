import Derived.Test.YtgoapenfbanhaaaGreatDoorJ20
set_option linter.all false
set_option maxRecDepth 100000
set_option maxHeartbeats 32000000
open List renaming length->l_
open Go.RowKit Go.Deep
open Go renaming Value->V_,TypeId->T_
namespace Go.Proofs.YtgoapenfbanhaaaGreatDoor.Q
variable{H α:Type}{F f fs:Array Field}{s:ByteArray}{ps:List Cn}{p:List MemPlace}{l:List α}{I W i k:Nat}{d:O_}{P:Program}{n:St}{e j o t:T_}{v:V_}
def agf:∀{l:List (DataW H)}{d:DataW H},d∈l->∀n∈d.weights P e,n∈DataW.weightsAll P e l
 |a::l,d,h,n,hn=>by
  simp only[DataW.weightsAll,iq];rcases jL.1 h with rfl|h;(.exact .inl hn);.exact .inr (agf h n hn)
def NK(s:ByteArray):Value.string s=d_ s.data.toList:=by cases s;simp[d_]
def zQ.mk{k l h:Int}(b:l_ n<=140737488355328)(c:∀p∈ps,zQ p):zQ (.mk k n l h ps):=λx a=>by simp only[Cn.pre]at a;rcases jL.1 a with rfl|a;(.exact b);.have⟨p,d,e⟩:=A9 a;exact c p d x e
section
variable{H:Type}{enc:T_×V_->H}{P:Program}{w:World}{base:Nat}{spare:Nat->Bool}{held:Bool}
def Wt(P:Program)(t:T_)(d:DataW H):Prop:=∀n∈d.weights P t,n<=140737488355328
def Wt.str{x:DataW H×List MemPlace}(e:x=(.lit (.string s.data.toList),[]))(h:Wt P t x.1):l_ s.data.toList<=140737488355328:=h _ (by rw[e];simp[DataW.weights])
def open_row(m:P.underlying t=some (.slice e))(Z:P.cellsOf e=k)(k0:0<k)(D:0<P.bytesOf e)(Q:O_->α->Prop)(G:∀(n:Nat)(o:O_)(y:DataW H×List MemPlace),n<W->l_ o=k->DataW.trod enc P w base spare held n e o=some y->Wt P e y.1->∃a,Q o a){x:DataW H×List MemPlace}(h:DataW.trod enc P w base spare held W t [v]=some x)(hw:Wt P t x.1):∃L:List (O_×α),Sl w w (λp:O_×α=>p.1) k v L/\(∀p∈L,Q p.1 p.2)/\l_ L<=140737488355328:=by
 rcases DataW.trod_slice m h with⟨g,_⟩|⟨l,z,cap,B,R,n',ar,F,C,hb,hl,J,au,X,_⟩;.simp at g;subst g;exact⟨[],Sl.nil _ _ _ _,λ_ h=>(by cases h),gZ _⟩
 .simp at F
  subst F;rw[Z]at X;(have M:∀y∈B,Wt P e y.1:=λy O n r=>hw n (by rw[C];simp only[DataW.weights,m,jL,iq];exact .inr (.inl (agf (pq.2 ⟨y,O,rfl⟩) n r))));(have ao:z<=140737488355328:=by have:=hw ((l_ B+l_ R)*P.bytesOf e) (by rw[C];simp[DataW.weights,m]);have d:z*1<=(l_ B+l_ R)*P.bytesOf e:=gd_ U D;omega);have s:∀i,i<z->∃p:O_×α,(∀j,j<k->w.cell? (l.add (i*k+j))=p.1[j]?)/\l_ p.1=k/\Q p.1 p.2:=λi hi=>by have f:=X i hi;rw[r9 U]at f;have⟨I,d,S⟩:=gz_.1 f;have⟨_,E,V⟩:=World.cells?_some d;have⟨c,Y⟩:=G n' I _ U E S (M _ (List.getElem_mem _));exact⟨(I,c),λj A=>by have:=V j A;rwa[Go.Deep.add_add]at this,E,Y⟩
  have ai:∀n,n<=z->∃L:List (O_×α),l_ L=n/\∀i p,L[i]?=some p->(∀j,j<k->w.cell? (l.add (i*k+j))=p.1[j]?)/\l_ p.1=k/\Q p.1 p.2:=by
   intro n
   induction n with
   |zero=>exact λ_=>⟨[],rfl,λi p hi=>by simp at hi⟩
   |succ n aj=>
    intro r;have⟨L,f,d⟩:=aj U;have⟨q,ak⟩:=s n r;refine⟨L++[q],by simp[f],λi p hi=>?_⟩;rw[List.getElem?_append]at hi;split at hi;(.exact d i p hi);·(have an:i-l_ L=0:=by have:=(jv.1 hi).1;simp at this;omega);rw[an]at hi;simp at hi;subst hi;obtain rfl:i=n:=U;exact ak
  have⟨L,f,d⟩:=ai z (gH _);subst f;refine⟨L,⟨some l,cap,rfl,hl,J,λg=>?_⟩,λp s=>?_,ao⟩;(.obtain⟨b,K,ap⟩:=l;have⟨q1,q2,_⟩:=d 0 L[0] (r9 g);have q3:=q1 0 k0;rw[r9 U]at q3;(have aq:ap=none:=by simpa[Addr.add]using World.cell?_spot q3);subst aq;(have al:N w b K (L[0].1[0]'U_):=by simpa[Addr.add]using q3);refine⟨b,K,rfl,zK w _ al,λi p hi j u A=>?_⟩;have⟨r1,am,_⟩:=d i p hi;have T:p.1[j]?=some u:=A;have:=r1 j (by rw[<-am];exact(jv.1 T).1);rw[add_lit]at this;rw[<-T,<-this];congr 2;omega);.have⟨i,hi⟩:=WE s;exact(d i p hi).2.2
def agh(h:l_ l=5):∃a b c d e,l=[a,b,c,d,e]:=by
 match l,h with
 |[a,b,c,d,e],_=>exact⟨a,b,c,d,e,rfl⟩
def Wt.field{s:T_}{xs:List (DataW H×List MemPlace)}{x y:DataW H×List MemPlace}(a:P.underlying t=some (.struct f))(e:x=(.agg (xs.map (·.1)),p))(h:Wt P t x.1)(hi:(f.map (·.type))[i]?=some s)(b:xs[i]?=some y):Wt P s y.1:=λn c=>h n (by
 rw[e];simp only[DataW.weights,a]
 exact DataW.weights_mem_each (j:=i) (by rwa[<-Array.toList_map,dd_]) (by rw[J8,b];rfl) n c)
def VR{r d t v B:Field}(F:P.underlying o=some (.struct #[r,d,t,v,B]))(aq:oneCellFields P #[r,d,t,v,B]=true)(T:P.cellsOf o=5)(Y:0<P.bytesOf o)(k0:P.underlying r.type=some (.int .i64))(ag:P.underlying d.type=some .string)(ah:P.underlying t.type=some (.int .i64))(k3:P.underlying v.type=some (.int .i64))(k4:P.underlying B.type=some (.slice o)):∀(E:Nat)(k:O_)(x:DataW H×List MemPlace),DataW.trod enc P w base spare held E o k=some x->Wt P o x.1->∃c,nV w c k/\zQ c:=by
 intro E
 induction E using Nat.strongRecOn with
 |ind E ai=>
  intro k x h hw;obtain⟨xs,n,rfl,W,V,ao,z⟩:=gv_ F h;rw[T]at V;obtain⟨c0,c1,c2,c3,c4,rfl⟩:=agh V;obtain⟨ar,au,av,aw,ax,rfl⟩:=agh (l:=xs) (Q ao);(have O:=λi f hi=>hone_of aq i f hi);have I:=z 0 r rfl;have G:=z 1 d rfl;have K:=z 2 t rfl;have g3:=z 3 v rfl;have D:=z 4 B rfl;rw[(O 0 r rfl).1,(O 0 r rfl).2]at I;rw[(O 1 d rfl).1,(O 1 d rfl).2]at G;rw[(O 2 t rfl).1,(O 2 t rfl).2]at K;rw[(O 3 v rfl).1,(O 3 v rfl).2]at g3;rw[(O 4 B rfl).1,(O 4 B rfl).2]at D;simp at I G K g3 D;have⟨a,X,_,_⟩:=gw_ k0 I;have⟨s,Z,aj,_⟩:=gx_ ag G;have⟨l,J,_,_⟩:=gw_ ah K;have⟨g,M,_,_⟩:=gw_ k3 g3;simp at X Z J M;subst X Z J M;obtain⟨L,⟨A,cap,rfl,hl,N,ak⟩,R,_⟩:=open_row k4 T U Y (λk c=>nV w c k/\zQ c) (λm k y N _ h hw=>ai m U k y h hw) D (hw.field F W (i:=4) S rfl);refine⟨.mk a s.data.toList l g (L.map (·.2)),?_,zQ.mk (Wt.str aj (hw.field (s:=d.type) F W (i:=1) S rfl)) λp al=>?_⟩;(.unfold nV;refine⟨A,cap,by rw[NK];simp,Q hl,N,λam=>?_⟩;have⟨b,ap,e,hb,hc⟩:=ak (Q am);refine⟨b,ap,e,hb,qI.of λi p hi=>?_⟩;rw[J8]at hi;obtain⟨q,C,rfl⟩:=Sb.1 hi;exact⟨q.1,λj u an=>by have:=hc i q C j u an;rwa[OI]at this,(R q (gV C)).1⟩);.obtain⟨q,C,rfl⟩:=pq.1 al;exact(R q C).2
structure Fp(P:Program)(tA tC tS tL tB:T_)(fs:Array Field):Prop where
 sA:P.underlying tA=some (.struct fs)
 cA:P.cellsOf tA=16
 n:fs.size=8
 f:(fs.map λf:Field=>(f.offset,f.type))= #[(0,3),(1,tB),(2,tC),(7,tC),(12,tL),(13,tS),(14,tS),(15,tS)]
 k3:P.underlying 3=some (.int .i64)
 kB:P.underlying tB=some .bool
 kS:P.underlying tS=some .string
 kL:P.underlying tL=some (.slice tS)
 c3:P.cellsOf 3=1
 cB:P.cellsOf tB=1
 cC:P.cellsOf tC=5
 cS:P.cellsOf tS=1
 cL:P.cellsOf tL=1
 bS:0<P.bytesOf tS
 bA:0<P.bytesOf tA
def Ht{u tS B C:T_}(T:Fp P u j tS B C fs)(z:∀(I:Nat)(d:O_)(x:DataW H×List MemPlace),DataW.trod enc P w base spare held I j d=some x->Wt P j x.1->∃c,nV w c d/\zQ c){x:DataW H×List MemPlace}(h:DataW.trod enc P w base spare held I u d=some x)(hw:Wt P u x.1):∃a,Ji w a d/\vN a:=by
 obtain⟨xs,n,rfl,ah,R,aC,hf⟩:=gv_ T.sA h;rw[T.cA]at R;rw[T.n]at aC;(have g:∀(i:Nat) o t,(#[(0,3),(1,C),(2,j),(7,j),(12,B),(13,tS),(14,tS),(15,tS)]:Array (Nat×T_))[i]?=some (o,t)->∃y,DataW.trod enc P w base spare held n t ((d.drop o).take (P.cellsOf t))=some y/\Wt P t y.1:=λi o t hi=>by rw[<-T.f,Array.getElem?_map]at hi;have⟨f,F,e⟩:=Sb.1 hi;have E:f.offset=o:=iM Prod.fst e;have K:f.type=t:=iM Prod.snd e;have:=hf i f F;(have O:i<l_ xs:=by have:=(yZ.1 F).1;have:=T.n;omega);rw[r9 O,E,K]at this;exact⟨_,this,hw.field T.sA ah (i:=i) (by rw[Array.getElem?_map,F,<-K];rfl) (r9 O)⟩);have⟨aF,W,_⟩:=g 0 0 3 rfl;have⟨aG,V,_⟩:=g 1 1 C rfl;have⟨aH,X,z2⟩:=g 2 2 j rfl;have⟨aI,g3,z3⟩:=g 3 7 j rfl;have⟨aJ,G,z4⟩:=g 4 12 B rfl;have⟨aK,Z,z5⟩:=g 5 13 tS rfl;have⟨aL,D,ai⟩:=g 6 14 tS rfl;have⟨aM,J,aj⟩:=g 7 15 tS rfl;rw[T.c3]at W;rw[T.cB]at V;rw[T.cC]at X g3;rw[T.cL]at G;rw[T.cS]at Z D J;have⟨a,ak,_,_⟩:=gw_ T.k3 W;have⟨b,E,_⟩:=DataW.trod_bool T.kB V;have⟨l,hl,wl⟩:=z _ _ _ X z2;have⟨r,al,wr⟩:=z _ _ _ g3 z3
 have⟨k,M⟩:∃k,(d.drop 12).take 1=[k]:=by
  have:l_ ((d.drop 12).take 1)=1:=by rw[wE,fs_];omega
  match h:(d.drop 12).take 1,this with
  |[v],_=>exact⟨v,rfl⟩
 rw[M]at G
 have⟨L,am,N,an⟩:=open_row T.kL T.cS U T.bS (λd (s:St)=>d=[d_ s]/\l_ s<=140737488355328) (λm d y _ _ h hw=>by
  obtain⟨s,rfl,e,_⟩:=gx_ T.kS h
  exact⟨s.data.toList,by rw[NK],Wt.str e hw⟩) G z4
 (have aD:jQ w k (L.map (·.2)):=by obtain⟨A,cap,rfl,hl,ao,ap⟩:=am;(have:=S1.mk (w:=w) (f:=d_) (A:=A) (c:=cap) (l:=L.map (·.2)) (Q hl) ao λaq=>by obtain⟨b,aE,e,hb,z⟩:=ap (Q aq);refine⟨b,aE,e,hb,λi s hi=>?_⟩;rw[J8]at hi;obtain⟨q,p,rfl⟩:=Sb.1 hi;have:=z i q p 0 (d_ q.2) (by show q.1[0]?=_;rw[(N q (gV p)).1];rfl);simpa using this);simpa using this);have⟨s5,ar,au,_⟩:=gx_ T.kS Z;have⟨av,aw,ax,_⟩:=gx_ T.kS D;have⟨ay,az,Y,_⟩:=gx_ T.kS J;refine⟨⟨a,b,l,r,L.map (·.2),s5.data.toList,av.data.toList,ay.data.toList⟩,⟨(d.drop 2).take 5,(d.drop 7).take 5,k,?_,hl,al,aD⟩,wl,wr,λs aB=>?_,Q an,Wt.str au z5,Wt.str ax ai,Wt.str Y aj⟩
 .simp only[<-NK]
  have S:d=(d.drop 0).take 1++(d.drop 1).take 1++(d.drop 2).take 5++(d.drop 7).take 5++((d.drop 12).take 1++(d.drop 13).take 1++(d.drop 14).take 1++(d.drop 15).take 1):=by
   refine cf_ λi=>?_
   match d,R with
   |[c0,c1,c2,c3,c4,c5,c6,c7,c8,c9,ca,cb,aN,aO,aP,aQ],_=>rfl
  rw[ak,E,M,ar,aw,az]at S;(conv=>lhs;rw[S]);simp
 .obtain⟨q,p,rfl⟩:=pq.1 aB;exact(N q p).2
def QD{g d tS k:T_}(T:Fp P g d tS j k F)(l:P.underlying e=some (.slice g))(t:∀(f:Nat)(b:O_)(x:DataW H×List MemPlace),DataW.trod enc P w base spare held f d b=some x->Wt P d x.1->∃c,nV w c b/\zQ c){f:Nat}{x:DataW H×List MemPlace}(h:DataW.trod enc P w base spare held f e [v]=some x)(hw:Wt P e x.1):∃L:List Ax,lT w v L/\∀a∈L,vN a:=by have⟨L,n,i,_⟩:=open_row l T.cA U T.bA (λb a=>Ji w a b/\vN a) (λm b y _ _ h hw=>Ht T t h hw) h hw;refine⟨L.map (·.2),⟨L,rfl,n,λp o=>(i p o).1⟩,λa r=>?_⟩;obtain⟨q,s,rfl⟩:=pq.1 r;exact(i q s).2



