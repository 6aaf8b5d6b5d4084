import Derived.Test.YtjmbkfjklemmpaaGreatDoorJ04
set_option linter.all false
set_option maxRecDepth 100000
set_option maxHeartbeats 32000000
namespace Go.Proofs
abbrev K_:=@Go.Lib.hid
end Go.Proofs
namespace Go.Proofs.YtjmbkfjklemmpaaGreatDoor
open Go.RowKit Tryz
def EY(uro ua ub:Bool)(x:Ax):Bool:=(!uro||fE x.role)&&(!ua||fq x.a)&&(!ub||fq x.b)&&x.roles.all fE
structure qR(x:Ax):Prop where
 l:ZQ x.left
 r:ZQ x.right
 rs:∀s∈x.roles,s.length<=1000000
 rn:x.roles.length<=1000000
 ro:x.role.length<=1000000
 a:x.a.length<=1000000
 b:x.b.length<=1000000
 lp:x.left.parts.length<=1000000
 rp:x.right.parts.length<=1000000
def Nt(x:Ax)(ag ah f c d:Bool)(le ai:Int)(aj ak E:Option Addr)(al am F:Nat)(w:World)(aD:(f=false/\c=false/\d=false)\/(f=true/\c=false/\d=false)\/(f=false/\c=true/\d=false)\/(f=true/\c=true/\d=true))(m:qR x)(H:lg w (.slice E x.roles.length F) x.roles):z 115 #[.agg (gV x aj al ak am E F),.agg #[ag,ah,f,c,d,le,ai]] w λe w'=>e=.returned (EY f c d x)/\G w w':=by
 obtain⟨aE,aF,an,_,_,ao⟩:=S1.form H;injection an with ap _ aq;subst ap aq;have aI:=m.rn;(have X:Hid (∀w b,fE x.role=b->z 167 #[x.role] w λe w'=>e=.returned (.bool b)/\G w w'):=O λw b h=>by subst h;exact lH x.role w (by have:=m.ro;omega));(have Z:Hid (∀w b,fq x.a=b->Calls prog 168 #[.string ⟨x.a.toArray⟩] w λe w'=>e=.returned (.int .i64 (if b then 0 else 20))/\Below w.heap.size w w'):=K_ λw b h=>by subst h;exact rY x.a w (by have:=m.a;omega));(have aa:Hid (∀w b,fq x.b=b->Calls prog 168 #[.string ⟨x.b.toArray⟩] w λe w'=>e=.returned (.int .i64 (if b then 0 else 20))/\Below w.heap.size w w'):=K_ λw b h=>by subst h;exact rY x.b w (by have:=m.b;omega));(have ab:Hid (∀(k:Nat)(s:St) w b,x.roles[k]?=some s->fE s=b->z 167 #[.string ⟨s.toArray⟩] w λe w'=>e=.returned (.bool b)/\G w w'):=O λk s w b I h=>by subst h;exact lH s w (by have:=m.rs s (gM I);omega));have K:Hid (EY f c d x=((!f||fE x.role)&&(!c||fq x.a)&&(!d||fq x.b)&&x.roles.all fE)):=O rfl;generalize EY f c d x=aJ at *;unfold gV d_;rcases aD with⟨rfl,rfl,rfl⟩|⟨rfl,rfl,rfl⟩|⟨rfl,rfl,rfl⟩|⟨rfl,rfl,rfl⟩;(case' inr.inl=>cases t:fE x.role);(case' inr.inr.inl=>cases u:fq x.a);(case' inr.inr.inr=>cases t:fE x.role<;>cases u:fq x.a<;>cases hb:fq x.b);all_goals have v:=K.o;simp only[Bool.not_false,Bool.not_true,Bool.true_or,is_,ia_,gj_,il_, *]at v;have y:=O v;(try have aC:=O (λw=>X.o w _ t));(try have ad:=O (λw=>Z.o w _ u));(try have ae:=O (λw=>aa.o w _ hb));(try clear t);(try clear u);(try clear hb);(try simp only[ZC,ZE,dz_,reduceIte]at ad);(try simp only[ZC,ZE,dz_,reduceIte]at ae);go_in;go_wp2_with (first|(go_at_call 167;with_reducible refine(aC.o _).mono ?_;rintro e L ⟨rfl,g⟩;obtain⟨au,av⟩:=Ez g;obtain⟨aK,aL⟩:w.heap.size<L.heap.size/\w.heap.size+1<L.heap.size:=(by have:=g.size;(try simp at this);omega))|(go_at_call 168;with_reducible refine(ad.o _).mono ?_;rintro e P ⟨rfl,j⟩;obtain⟨aw,ax⟩:=Ez j;obtain⟨aM,aN⟩:w.heap.size<P.heap.size/\w.heap.size+1<P.heap.size:=(by have:=j.size;(try simp at this);omega))|(go_at_call 168;with_reducible refine(ae.o _).mono ?_;rintro e aG ⟨rfl,A⟩;obtain⟨ay,az⟩:=Ez A))
 all_goals first
  |(go_ret
    exact⟨ku y.o.symm,by first
     |exact L_ bA _
     |exact b_ (b_ (b_ (L_ bA _) g) j) A
     |exact b_ (b_ (L_ bA _) g) j
     |exact b_ (L_ bA _) g
     |exact b_ (L_ bA _) j⟩)
  |skip
 all_goals
  go_loopw [38] (λi wr=>∃k:Nat,k<=x.roles.length/\i=.int .i64 (k:Int)/\Hid ((x.roles.take k).all fE=true)/\Hid (Below w.heap.size w wr)) (λi _=>x.roles.length-(intOf i).toNat)
  exact⟨0,gL _,rfl,O S,O (by first
   |exact L_ bA _
   |exact b_ (b_ (b_ (L_ bA _) g) j) A
   |exact b_ (b_ (L_ bA _) g) j
   |exact b_ (L_ bA _) g
   |exact b_ (L_ bA _) j)⟩
  obtain⟨k,I,rfl,T,r⟩:=hrel
  by_cases aA:k<x.roles.length
  ·obtain⟨b,ac,rfl,aB,af⟩:=ao U
   obtain⟨s,n⟩:=g_ aA;have W:N wr b (ac+k) s:=(r.o.cell (p:=⟨b,ac+k,none⟩) aB).trans (af k s n);have r1:(0:Int)<=(k:Int):=U;have aH:(k:Int)<(x.roles.length:Int):=U;clear af
   cases l:fE s with
   |true=>
    have C:=O (ab.o k s wr true n l);have o:Hid ((x.roles.take (k+1)).all fE=true):=O (by rw[oF n,T.o,l];rfl);go_wp2_with fail;refine C.o.mono ?_;rintro e ar ⟨rfl,q⟩;have B:=O (b_ r.o q);go_wp2;go_roundw;exact⟨k+1,U,R,o,B⟩;exact M
   |false=>
    have C:=O (ab.o k s wr false n l);have o:Hid (x.roles.all fE=false):=O (EK n l);go_wp2_with fail;refine C.o.mono ?_;rintro e ar ⟨rfl,q⟩;have B:=O (b_ r.o q);go_wp2;go_ret;exact⟨ku (by rw[y.o,o.o]),B.o⟩
  ·(obtain rfl:k=x.roles.length:=by omega);have o:Hid (x.roles.all fE=true):=O (by have:=T.o;rwa[jh]at this);go_wp2;go_ret;exact⟨ku (by rw[y.o,o.o]),r.o⟩
end Go.Proofs.YtjmbkfjklemmpaaGreatDoor
