import Derived.Deep.DeepCutAuto
import Derived.Deep.DrawnRows
import Derived.Deep.RegionHeld3
import Derived.LaidLaws
import Derived.Laws.EntriesVeiled
import Derived.OpenShut
import Derived.Test.YtgoapenfbanhaaaGreatDoorJ00
set_option linter.all false
set_option maxRecDepth 100000
set_option maxHeartbeats 32000000
open List renaming length->l_
open Go.RowKit Go.Proofs.Tryz Go.Deep
open Go renaming Value->V_,TypeId->T_
namespace Go.Proofs.YtgoapenfbanhaaaGreatDoor
section
variable{α:Type}
attribute [local go_sem ↓] Go.wp_at_zero Go.wp_at_succ
def SE(x:Int×Int):Int:=if x.1< -1099511627776\/x.2< -1099511627776\/1099511627776<x.1\/1099511627776<x.2 then 1 else if x.2<x.1 then 80 else 0
def qL(e:Int)(x:Int×Int):Int:=if e=0 then SE x else e
def zP(l:List (Int×Int)):Int:=l.foldl qL 0
def AZ(x y:Int×Int):Bool:=decide (zP [x,y]=0/\y.1<=x.1/\x.2<=y.2)
def afS(x:Int×Int):O_:=[.int .i64 x.1,.int .i64 x.2]
abbrev ivV(x:Int×Int):V_:= .agg #[x.1,x.2]
abbrev afT(w:World)(v:V_)(l:List (Int×Int)):Prop:=Sl w w afS 2 v l
def acn{lo hi:Int}(h:lo< -1099511627776\/hi< -1099511627776\/1099511627776<lo\/1099511627776<hi):1=SE (lo,hi):=(P_ h).symm
def SG{lo hi:Int}(h:¬(lo< -1099511627776\/hi< -1099511627776\/1099511627776<lo\/1099511627776<hi))(a:hi<lo):80=SE (lo,hi):=by unfold SE;rw[C_ h,P_ a]
def Zq{lo hi:Int}(h:¬(lo< -1099511627776\/hi< -1099511627776\/1099511627776<lo\/1099511627776<hi))(a:¬hi<lo):0=SE (lo,hi):=by unfold SE;rw[C_ h,C_ a]
def Pg(x:Int×Int)(w:World):Y 321 #[ivV x] w (SE x):=by
 obtain⟨lo,hi⟩:=x;by_cases a:lo<hi;(all_goals by_cases b:hi<lo);(all_goals by_cases c:lo< -1099511627776\/hi< -1099511627776);all_goals by_cases d:1099511627776<lo\/1099511627776<hi
 all_goals first
  |(exfalso;omega)
  |(go_in
    go_wp2
    all_goals
     go_ret
     refine⟨l9 ?_,(fu _ _).alloc (gH _) _⟩
     first
      |exact acn U
      |exact SG U U
      |exact Zq U U
      |(exfalso;omega))
def JA(e:Int)(x:Int×Int)(w:World):z 320 #[e,ivV x] w λr w'=>r=.returned (qL e x)/\G w w':=by obtain⟨lo,hi⟩:=x;by_cases h:e=0;(·(have hb:(e !=0)=false:=by simp[h]);have b:qL e (lo,hi)=SE (lo,hi):=P_ h;have a:=O b;clear h b;go_in;go_wp2_with (go_at_call 321;refine(Pg (lo,hi) _).mono ?_;rintro e w' ⟨rfl,c⟩);go_ret;exact⟨l9 a.o.symm,((fu _ _).alloc (gH _) _).trans (c.mono S)⟩);·(have hb:(e !=0)=true:=by simp[h]);have a:=O (show qL e (lo,hi)=e from C_ h);clear h;go_in;go_wp2;go_ret;exact⟨l9 a.o.symm,((fu _ _).alloc (gH _) _)⟩
def CJ(l:List (Int×Int))(k:Nat)(x:Int×Int)(h:l[k]?=some x):(l.take (k+1)).foldl qL 0=qL ((l.take k).foldl qL 0) x:=by obtain⟨a,rfl⟩:=jv.1 h;rw[Fh a,ac_];rfl
def MP(v:V_)(l:List (Int×Int))(w:World)(h:afT w v l):z 319 #[v,V 0,.func (.func 320) #[] #[]] w λr w'=>r=.returned (zP l)/\G w w':=by obtain⟨A,c,rfl,t,g,j⟩:=h;unfold maxLen at g;go_in;go_wp2;go_loopw [1,11] (λs i wr=>∃k:Nat,k<=l_ l/\i=.int .i64 k/\s=.int .i64 ((l.take k).foldl qL 0)/\G w wr) (λ_ i _=>l_ l-(intOf i).toNat);exact⟨0,gZ _,rfl,rfl,fu _ _⟩;obtain⟨k,q,rfl,rfl,H⟩:=hrel;by_cases n:k<l_ l;(.obtain⟨b,f,rfl,hb,d⟩:=j U;have⟨x,a⟩:∃x,l[k]?=some x:=⟨l[k],by simp[n]⟩;have C:N wr b (f+k*2) x.1:=(H.cell hb).trans (d k x a 0 _ rfl);have c1:N wr b (f+k*2+1) x.2:=(H.cell hb).trans (d k x a 1 _ rfl);have m:=(CJ l k x a);clear d a;go_wp2_with (go_at_call 320;refine(JA _ x _).mono ?_;rintro e w' ⟨rfl,o⟩);have p:G w w':=(H.alloc H.size _).trans (o.mono (by have:=H.size;simp;omega));go_roundw;exact⟨k+1,U,R,by rw[m],p⟩;exact M);.go_wp2;go_ret;exact⟨l9 (by rw[J9 U];rfl),H⟩
def xD(v:V_)(l:List (Int×Int))(w:World)(h:afT w v l):z 297 #[v] w λr w'=>r=.returned (zP l)/\G w w':=by go_in;go_wp2_with (go_at_call 319;refine(MP _ l _ h).mono ?_;rintro e w' ⟨rfl,a⟩);go_ret;exact⟨rfl,a⟩
def adB(w:World)(n:Nat)(f:n=w)(t:T_)(enc:α->O_)(x y:α)(a b c d:V_)(g:enc x=[a,b])(h:enc y=[c,d]):Sl (L_ w t #[a,b,c,d]) (w.alloc (.cells #[a,b,c,d] t)).heap.size enc 2 (.slice n 2 2) [x,y]:=by
 subst f;refine⟨_,2,rfl,gH _,by simp[maxLen],λ_=>⟨w,0,rfl,S,?_⟩⟩;intro i z hi j u e;have H:∀o,(w.alloc (.cells #[a,b,c,d] t)).cell? (a_ w o)= #[a,b,c,d][o]? :=ji w _ t;rw[H]
 match i,hi with
 |0,hi=>
  simp at hi;subst hi;rw[g]at e
  match j,e with
  |0,e=>simpa using e
  |1,e=>simpa using e
  |j+2,e=>simp at e
 |1,hi=>
  simp at hi;subst hi;rw[h]at e
  match j,e with
  |0,e=>simpa using e
  |1,e=>simpa using e
  |j+2,e=>simp at e
 |i+2,hi=>simp at hi
def SH(x y:Int×Int):zP [x,y]=if SE x=0 then SE y else SE x:=by simp[zP,qL]
def MQ(x y:Int×Int)(w:World):z 264 #[ivV x,ivV y] w λr w'=>r=.returned (AZ x y)/\G w w':=by obtain⟨a,b⟩:=x;obtain⟨c,d⟩:=y;have h:Hid (AZ (a,b) (c,d)=decide (zP [(a,b),(c,d)]=0/\c<=a/\b<=d)):=O rfl;generalize AZ (a,b) (c,d)=z at *;generalize i:zP [(a,b),(c,d)]=k at *;by_cases g:k=0;(.subst g;go_in;go_wp2_with (go_at_call 297;refine(xD _ [(a,b),(c,d)] _ (by exact adB _ _ S _ _ _ _ _ _ _ _ rfl rfl)).mono ?_;rintro e w' ⟨rfl,f⟩;have⟨H,l⟩:=FU f;rw[i]);all_goals go_ret;exact⟨fP (by rw[h.o];simp;omega),b_ (X_ (X_ bA _) _) f⟩);·(have j:(k==0)=false:=by simp[g]);go_in;go_wp2_with (go_at_call 297;refine(xD _ [(a,b),(c,d)] _ (by exact adB _ _ S _ _ _ _ _ _ _ _ rfl rfl)).mono ?_;rintro e w' ⟨rfl,f⟩;have⟨H,l⟩:=FU f;rw[i]);go_ret;exact⟨fP (by rw[h.o];simp[g]),b_ (X_ (X_ bA _) _) f⟩
end
variable{d:DataW Unit}{p:List MemPlace}{l:Lit}{base c g:Nat}{s:Nat->Bool}{a:O_}{P:Program}{t:T_}{enc:T_×V_->Unit}{v:V_}{W w:World}
def look(d:DataW Unit)(i j:Nat):Option V_:=
 match d with
 | .agg D=>match D[i]? with
   |some (.agg f)=>match f[j]? with
    |some (.lit (.int k z))=>some (.int k z)
    |some (.lit (.bool b))=>some (.bool b)
    |_=>none
   |_=>none
 |_=>none
def Ph{d:Bool}(H:(match l with| .int k z=>some (.int k z)| .bool b=>some (.bool b)|_=>none:Option V_)=some v)(h:DataW.trod enc P w base s d c t a=some (.lit l,p)):a=[v]:=by
 cases c with
 |zero=>simp[DataW.trod]at h
 |succ n=>
  unfold DataW.trod at h;cases l<;>simp at H<;>subst H;all_goals split at h;all_goals first|(simp at h;done)|(simp at h;simp_all;done)|(simp[Sb,gz_]at h;done)|(split at h<;>(try (split at h))<;>simp_all [Sb,gz_];done)|(split at h<;>(try (split at h))<;>(try (split at h))<;>simp[Sb,gz_]at h)
def CK{name:String}{R:List (String×DataW Unit)}{e:T_}{n k:Nat}{G:Array Field}(u:P.globalNamed name=some g)(Q:(P.globals[g]?).map (·.type)=some t)(C:P.underlying t=some (.array n e))(E:P.underlying e=some (.struct G))(ak:oneCellFields P G=true)(F:P.cellsOf e=k)(hf:G.size=k)(h:laidMet P ((name,d)::R) W)(i j o:Nat)(v:V_)(H:o=i*k+j)(D:look d i j=some v):N W g o v:=by
 subst H;obtain⟨ps,⟨am,an,w,au,p,q,S,V,al,hd,_,_⟩,_⟩:=h;obtain rfl:=Ch (u.symm.trans S);obtain rfl:=Ch (Q.symm.trans V);obtain⟨xs,m,rfl,I,hl,Y,hi⟩:=DataW.trod_array C hd;obtain⟨rfl,_⟩:=Prod.mk.inj I;unfold look at D;simp only[J8]at D
 cases c:xs[i]? with
 |none=>rw[c]at D;simp at D
 |some x=>
  (have ah:i<n:=by rw[<-Y];exact(jv.1 c).1);have A:=hi i ah;rw[c,F]at A;obtain⟨K,ao,rfl,L,hl2,ai,T⟩:=gv_ E A;obtain⟨ap,aq⟩:=x;obtain⟨rfl,_⟩:=Prod.mk.inj L;rw[c]at D;simp only[hy_,J8]at D
  cases r:K[j]? with
  |none=>rw[r]at D;simp at D
  |some y=>
   (have aj:j<G.size:=by rw[<-ai];exact(jv.1 r).1);obtain⟨f,B⟩:∃f,G[j]?=some f:=⟨_,Za aj⟩;have s:=T j f B;obtain⟨X,Z⟩:=hone_of ak j f B;rw[X,Z,r]at s;obtain⟨J,ar⟩:=y;rw[r]at D;simp only[hy_]at D
   have M:(((List.drop (i*k) w.toList).take k).drop j).take 1=[v]:=by
    cases J with
    |lit l=>cases l with
     |int a z=>exact Ph (l:= .int a z) D s
     |bool b=>exact Ph (l:= .bool b) D s
     |_=>simp at D
    |_=>simp at D
   (have O:w[i*k+j]?=some v:=by have:=iM (·[0]?) M;simp only[YW,hq_]at this;rw[P_ U,P_ U]at this;simpa[dd_]using this);rw[World.var?_cell u al,O]



