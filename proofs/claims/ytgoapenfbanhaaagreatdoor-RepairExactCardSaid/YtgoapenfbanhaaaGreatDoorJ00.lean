import Derived.BigQuiet
import Derived.Deep.AppendLies
import Derived.Deep.Fields
import Derived.Lib.Hide
import Derived.Maps.OwnSet
import Derived.Test.YtgoapenfbanhaaaGreatDoorProg
import Derived.WalkKit
set_option linter.all false
set_option maxRecDepth 100000
set_option maxHeartbeats 32000000
open List renaming length->l_
namespace Go.Proofs
theorem k_{p:Prop}(h:p:=by kernel_rfl):p:=h
structure Ce_
def x_:Ce_:=⟨⟩
instance:CoeOut Ce_ Value:=⟨λ_=>.string ⟨#[]⟩⟩
structure Ad_(b o:Nat)
def a_(b o:Nat):Ad_ b o:=⟨⟩
instance{b o:Nat}:CoeOut (Ad_ b o) Addr:=⟨λ_=>⟨b,o,none⟩⟩
end Go.Proofs
open Go.RowKit Go.Proofs.Tryz Go.Deep
namespace Go.Proofs
abbrev I_:=List Int
abbrev J_:=Option Go.Addr
abbrev O_:=List Go.Value
abbrev A_:=Array Go.Value
abbrev H_:=List (List Int)
end Go.Proofs
open Go renaming World->W_,Value->V_,maxLen->m_,TypeId->T_,Ending->E_
namespace Go.Proofs
abbrev P_:=@if_pos
abbrev C_:=@if_neg
abbrev ac_:=@List.foldl_append
abbrev ad_:=@List.getElem_of_mem
abbrev wE:=@List.length_take
abbrev jv:=@List.getElem?_eq_some_iff
abbrev ag_:=@List.getElem_take
abbrev R7:=@List.pairwise_iff_getElem
abbrev gH:=@Nat.le_refl
abbrev Jf:=@List.mem_append_left
abbrev iq:=@List.mem_append
abbrev gW:=@List.mem_singleton
abbrev am_:=@List.pairwise_append
abbrev an_:=@List.pairwise_singleton
abbrev qw:=@Go.info_parts
abbrev pq:=@List.mem_map
abbrev gZ:=@Nat.zero_le
abbrev fu:=@Go.RowKit.Below.refl
abbrev gV:=@List.mem_of_getElem?
abbrev J8:=@List.getElem?_map
abbrev jy:=@List.take_length
abbrev wO:=@List.map_append
abbrev gY:=@Nat.le_trans
abbrev J9:=@List.take_of_length_le
abbrev ba_:=@Go.Oper.semAt_some
abbrev EH:=@Go.World.cell?_of_block
abbrev bc_:=@List.size_toArray
abbrev p8:=@List.length_cons
abbrev Mv:=@List.length_nil
abbrev bg_:=@Array.replicate_succ
abbrev bh_:=@Array.replicate_zero
abbrev bi_:=@List.push_toArray
abbrev bj_:=@List.append_toArray
abbrev Y8:=@List.nil_append
abbrev Ka:=@List.cons_append
abbrev rY:=@Go.bodyPost_ret
abbrev yY:=@Go.callsIn_wide
abbrev Ce:=@Go.World.ownsRow_nil
abbrev bp_:=@Go.results_tmp
abbrev Jg:=@List.eq_nil_of_length_eq_zero
abbrev R8:=@Go.World.grownBy.refl
abbrev yZ:=@Array.getElem?_eq_some_iff
abbrev bt_:=@List.length_mergeSort
abbrev qO:=@Nat.lt_of_lt_of_le
abbrev bx_:=@List.any_eq_true
abbrev by_:=@List.pairwise_map
abbrev bz_:=@List.mem_flatten
abbrev Jc:=@Nat.zero_add
abbrev cb_:=@List.any_append
abbrev zK:=@Go.World.block_lt_of_cell?
abbrev Mw:=@beq_eq_false_iff_ne
abbrev R3:=@List.getD_eq_getElem?_getD
abbrev cf_:=@List.ext_getElem?
abbrev Ke:=@Nat.lt_or_ge
abbrev Wz:=@List.getElem?_eq_none
abbrev Y9:=@List.filter_append
abbrev ny:=@List.length_append
abbrev OA:=@List.length_filter_le
abbrev y5:=@List.mem_filter
abbrev Cg:=@of_decide_eq_true
abbrev cn_:=@List.mem_range
abbrev y7:=@decide_eq_true
abbrev cp_:=@List.Pairwise.filter
abbrev cq_:=@List.getElem_inj
abbrev qm:=@List.length_map
abbrev Fg:=@Go.RowKit.Below.heap_setCell
abbrev iM:=@congrArg
abbrev cu_:=@List.take_take
abbrev cv_:=@Ne.symm
abbrev OH:=@Go.RowKit.Below.heap_alloc
abbrev WA:=@Go.IntWalk.i64_in
abbrev wT:=@List.length_singleton
abbrev cz_:=@List.getElem?_append_left
abbrev YW:=@List.getElem?_take
abbrev db_:=@List.getElem?_append_right
abbrev dc_:=@Go.cell_of_row
abbrev dd_:=@Array.getElem?_toList
abbrev de_:=@Go.heap_alloc_new
abbrev df_:=@Array.getElem?_append_left
abbrev dg_:=@Go.grownCap_le_maxLen
abbrev dh_:=@Array.size_append
abbrev di_:=@Go.World.cell?_setCells_out
abbrev dj_:=@Array.getElem?_setIfInBounds_self_of_lt
abbrev Za:=@Array.getElem?_eq_getElem
abbrev dl_:=@List.range_succ
abbrev Zb:=@List.flatMap_append
abbrev Kg:=@List.append_assoc
abbrev dp_:=@List.nodup_cons
abbrev Zc:=@List.map_cons
abbrev dr_:=@decide_true
abbrev ds_:=@if_true
abbrev dt_:=@decide_false
abbrev du_:=@Bool.false_eq_true
abbrev dv_:=@if_false
abbrev dw_:=@List.take_append_drop
abbrev dx_:=@Nat.succ_mul
abbrev dy_:=@Go.World.grownBy_alloc
abbrev dz_:=@Go.World.ownsRow_lit
abbrev Ch:=@Option.some.inj
abbrev Jd:=@List.drop_eq_getElem_cons
abbrev R9:=@List.drop_length
abbrev r9:=@List.getElem?_eq_getElem
abbrev jL:=@List.mem_cons
abbrev OB:=@Bool.and_eq_true
abbrev OC:=@decide_eq_true_eq
abbrev eh_:=@Nat.not_lt_zero
abbrev ei_:=@List.length_pos_iff
abbrev ej_:=@Nat.add_zero
abbrev ek_:=@Array.getElem?_setIfInBounds
abbrev el_:=@List.foldr_cons
abbrev Vn:=@List.take_succ_cons
abbrev eo_:=@List.take_zero
abbrev ep_:=@List.drop_succ_cons
abbrev er_:=@List.drop_zero
abbrev es_:=@Go.wpStill_nil
abbrev WB:=@Bool.or_eq_true
abbrev Mx:=@Classical.byContradiction
abbrev ev_:=@Bool.not_eq_true'
abbrev Vo:=@List.all_eq_true
abbrev ex_:=@List.drop_of_length_le
abbrev sj:=@decide_eq_false
abbrev Vp:=@List.not_mem_nil
abbrev Vq:=@or_false
abbrev Fh:=@List.take_succ_eq_append_getElem
abbrev fc_:=@Nat.min_eq_left
abbrev fd_:=@Nat.le_of_lt
abbrev fe_:=@List.foldl_cons
abbrev Vr:=@List.map_map
abbrev Sb:=@Option.map_eq_some_iff
abbrev fh_:=@List.filter_sublist
abbrev fi_:=@List.mk_mem_zipIdx_iff_getElem?
abbrev fk_:=@List.length_filterMap_le
abbrev WC:=@List.nodup_append
abbrev WE:=@List.getElem?_of_mem
abbrev fn_:=@Array.toList_inj
abbrev fo_:=@Decidable.not_not
abbrev R4:=@List.mem_of_mem_take
abbrev fq_:=@List.append_nil
abbrev fr_:=@Nat.lt_irrefl
abbrev fs_:=@List.length_drop
abbrev ft_:=@Nat.pow_le_pow_right
abbrev YX:=@beq_iff_eq
abbrev fv_:=@beq_false_of_ne
abbrev EI:=@List.pairwise_cons
abbrev fx_:=@List.filter_eq_self
abbrev fy_:=@List.drop_sublist
abbrev DL:=@List.take_add_one
abbrev YZ:=@List.mem_cons_of_mem
abbrev gb_:=@Bool.false_and
abbrev gc_:=@Bool.or_false
abbrev gd_:=@Nat.mul_le_mul
abbrev ge_:=@Int.lt_irrefl
abbrev gf_:=@List.mem_cons_self
abbrev R5:=@getElem!_pos
abbrev gh_:=@List.mem_flatMap
abbrev gj_:=@List.mem_mergeSort
abbrev gk_:=@not_true_eq_false
abbrev Y0:=@or_assoc
abbrev gm_:=@UInt8.toNat_inj
abbrev gn_:=@Nat.mul_le_mul_right
abbrev Zd:=@Bool.eq_iff_iff
abbrev OI:=@Nat.mul_comm
abbrev gq_:=@Nat.add_assoc
abbrev gr_:=@Array.getElem?_modify
abbrev OD:=@List.flatMap_cons
abbrev gt_:=@Go.wpList_plain
abbrev gu_:=@List.cons.injEq
abbrev gv_:=@Go.DataW.trod_struct
abbrev gw_:=@Go.DataW.trod_int
abbrev gx_:=@Go.DataW.trod_string
abbrev gy_:=@Array.length_toList
abbrev gz_:=@Option.bind_eq_some_iff
abbrev hb_:=@List.drop_eq_nil_of_le
abbrev hc_:=@Int.lt_trichotomy
abbrev hd_:=@List.nodup_nil
abbrev he_:=@List.mem_erase_of_ne
abbrev hf_:=@List.length_erase_of_mem
abbrev hg_:=@List.length_pos_of_mem
abbrev hh_:=@List.mem_of_find?_eq_some
abbrev hj_:=@decide_eq_true_iff
abbrev hk_:=@decide_eq_false_iff_not
abbrev hl_:=@List.Perm.refl
abbrev hm_:=@List.attach_map_subtype_val
abbrev hn_:=@of_decide_eq_false
abbrev ho_:=@Array.getElem_toList
abbrev hp_:=@List.take_length_add_append
abbrev hq_:=@List.getElem?_drop
abbrev hr_:=@Bool.true_and
abbrev ht_:=@List.length_filter_lt_length_iff_exists
abbrev hu_:=@List.mergeSort_perm
abbrev hv_:=@List.pairwise_mergeSort
abbrev hw_:=@List.sum_cons
abbrev hy_:=@Option.map_some
abbrev ib_:=@Bool.and_true
abbrev ic_:=@Bool.and_false
abbrev id_:=@List.take_subset_take_left
abbrev Ze:=@List.flatMap_def
abbrev Zf:=@Nat.lt_of_le_of_lt
abbrev ih_:=@List.take_append_of_le_length
abbrev ii_:=@List.map_take
abbrev ij_:=@List.length_eq_one_iff
abbrev ik_:=@Bool.false_or
abbrev il_:=@Go.Exit.noGoto_ret
abbrev im_:=@Go.size_zeroCells
abbrev in_:=@List.length_eq_zero_iff
abbrev io_:=@Classical.not_forall
abbrev ip_:=@Classical.not_imp
abbrev iq_:=@List.filter_sublist
abbrev ir_:=@List.filter_cons_of_pos
abbrev is_:=@List.filter_cons_of_neg
abbrev it_:=@List.nodup_iff_pairwise_ne
abbrev iu_:=@List.Pairwise.imp_of_mem
abbrev iv_:=@decide_eq_decide
abbrev iw_:=@Nat.add_comm
abbrev ix_:=@List.getLastD_eq_getLast?
abbrev iy_:=@Go.Oper.upon_value
abbrev iz_:=@UInt8.toNat_ofNat'
abbrev ja_:=@UInt8.le_iff_toNat_le
abbrev jb_:=@Int.ofNat_le
end Go.Proofs
namespace Go.Proofs.YtgoapenfbanhaaaGreatDoor
variable{α:Type}{args:A_}{a:Act}{p:Addr}{b:Array Oper}{f:FuncId}{A:J_}{ps:List (V_×I_)}{l:List α}{B base g k n:Nat}{i xs:O_}{r row:Option Nat}{P:Program}{E:Prop}{e t:T_}{u v:V_}{W w w':W_}
def O{p:Prop}(h:p):Hid p:=h
def _root_.Go.RowKit.Hid.o{p:Prop}(h:Hid p):p:=h
def U{p:Prop}(h:p:=by omega):p:=h
def S{p:Prop}(h:p:=by simp):p:=h
def D{p:Prop}(h:p:=by decide):p:=h
def Q{p q:Prop}(h:p)(k:p->q:=by intro h;simpa using h):q:=k h
def M{p:Prop}(h:p:=by simp[intOf];omega):p:=h
def R{p:Prop}(h:p:=by go_num):p:=h
def U_{p:Prop}(h:p:=by omega):p:=h
def S_{p:Prop}(h:p:=by simp):p:=h
def D_{p:Prop}(h:p:=by decide):p:=h
def Q_{p q:Prop}(h:p)(k:p->q:=by intro h;simpa using h):q:=k h
def M_{p:Prop}(h:p:=by simp[intOf];omega):p:=h
def R_{p:Prop}(h:p:=by go_num):p:=h
def e_{α:Type}(a:α):∃q,a=q:=⟨_,rfl⟩
def g_{α:Type}{l:List α}{k:Nat}(h:k<l.length):∃x,l[k]?=some x:=⟨l[k],r9 h⟩
def bA{w:W_}{o:Obj}:Below w.heap.size w (w.alloc o):=(fu _ _).alloc (gH _) o
structure Ca(w:W_)(b o:Nat)(v:V_)
def N(w:W_)(b o:Nat)(v:V_):Ca w b o v:=⟨⟩
instance{w:W_}{b o:Nat}{v:V_}:CoeSort (Ca w b o v) Prop:=⟨λ_=>w.cell? ⟨b,o,none⟩=some v⟩
instance{w:W_}{b o:Nat}{v:V_}:CoeOut (Ca w b o v) Prop:=⟨λ_=>w.cell? ⟨b,o,none⟩=some v⟩
structure Cb(w w':W_)
def G(w w':W_):Cb w w':=⟨⟩
instance{w w':W_}:CoeSort (Cb w w') Prop:=⟨λ_=>Below w.heap.size w w'⟩
instance{w w':W_}:CoeOut (Cb w w') Prop:=⟨λ_=>Below w.heap.size w w'⟩
structure Cz(k:FuncId)(a:Array V_)(w:W_)(Q:E_->W_->Prop)
def z(k:FuncId)(a:Array V_)(w:W_)(Q:E_->W_->Prop):Cz k a w Q:=⟨⟩
instance{k:FuncId}{a:Array V_}{w:W_}{Q:E_->W_->Prop}:CoeSort (Cz k a w Q) Prop:=⟨λ_=>Calls prog k a w Q⟩
instance{k:FuncId}{a:Array V_}{w:W_}{Q:E_->W_->Prop}:CoeOut (Cz k a w Q) Prop:=⟨λ_=>Calls prog k a w Q⟩
structure Cy(k:FuncId)(a:Array V_)(w:W_)(v:V_)
def Y(k:FuncId)(a:Array V_)(w:W_)(v:V_):Cy k a w v:=⟨⟩
instance{k:FuncId}{a:Array V_}{w:W_}{v:V_}:CoeSort (Cy k a w v) Prop:=⟨λ_=>Calls prog k a w λe w'=>e=.returned v/\Below w.heap.size w w'⟩
instance{k:FuncId}{a:Array V_}{w:W_}{v:V_}:CoeOut (Cy k a w v) Prop:=⟨λ_=>Calls prog k a w λe w'=>e=.returned v/\Below w.heap.size w w'⟩
structure Cv(n:Int)
def V(n:Int):Cv n:=⟨⟩
instance{n:Int}:CoeOut (Cv n) V_:=⟨λ_=> .int .i64 n⟩
instance:Coe Int V_:=⟨λn=> .int .i64 n⟩
instance:Coe Nat V_:=⟨λn=> .int .i64 (n:Int)⟩
instance:Coe Bool V_:=⟨λn=> .bool n⟩
instance:Coe (List UInt8) V_:=⟨λn=> .string ⟨n.toArray⟩⟩
instance:Coe W_ Nat:=⟨λw=>w.heap.size⟩
instance:Coe Nat Addr:=⟨λb=>⟨b,0,none⟩⟩
instance:Coe Unit V_:=⟨λ_=> .slice none 0 0⟩
structure Cw(w:W_)(t:T_)(a:Array V_)
def L_(w:W_)(t:T_)(a:Array V_):Cw w t a:=⟨⟩
instance{w:W_}{t:T_}{a:Array V_}:CoeOut (Cw w t a) W_:=⟨λ_=>w.alloc (.cells a t)⟩
abbrev St:=List UInt8
inductive Cn where
 |mk (K:Int) (N:St) (lo hi:Int) (J:List Cn)
namespace Cn
variable{P:Cn->Prop}
def K:Cn->Int| .mk k _ _ _ _=>k
def N:Cn->St| .mk _ n _ _ _=>n
def lo:Cn->Int| .mk _ _ l _ _=>l
def hi:Cn->Int| .mk _ _ _ h _=>h
def J:Cn->List Cn| .mk _ _ _ _ p=>p
def nil:Cn:= .mk 0 [] 0 0 []
mutual
def size:Cn->Nat| .mk _ _ _ _ ps=>sizes ps+1
def sizes:List Cn->Nat|[]=>0|c::l=>size c+sizes l
end
mutual
def deep:Cn->Nat| .mk _ _ _ _ ps=>DN ps
def DN:List Cn->Nat|[]=>0|c::l=>max (deep c+1) (DN l)
end
mutual
def pre:Cn->List Cn| .mk k n l h ps=> .mk k n l h ps::kR ps
def kR:List Cn->List Cn|[]=>[]|c::l=>pre c++kR l
end
def Sc(h:∀k n l g ps,(∀p∈ps,P p)->P (.mk k n l g ps))(c:Cn):P c:=Cn.rec (λk n l g ps d=>h k n l g ps d) (λ_ b=>by cases b) (λa l e f p b=>by
  rcases jL.1 b with rfl|b;.exact e
  .exact f p b) c
def ind(h:∀c:Cn,(∀p∈c.J,P p)->P c):∀c,P c:=Sc λk n l g ps a=>h (.mk k n l g ps) a
def size_pos(c:Cn):0<c.size:=by cases c;simp[size]
def lu{c p:Cn}(h:p∈c.J):p.size<c.size:=by
 obtain⟨k,n,l,g,ps⟩:=c;simp only[J]at h;simp only[size]
 induction ps with
 |nil=>cases h
 |cons a l b=>
  simp only[sizes];rcases jL.1 h with rfl|h;(.omega);.have:=b h;omega
def ab6:∀c:Cn,l_ c.pre=c.size:=by
 intro c
 induction c using ind with
 |h c b=>
  obtain⟨k,n,l,g,ps⟩:=c;simp only[pre,p8];congr 1;simp only[J]at b
  induction ps with
  |nil=>rfl
  |cons a r e=>
   simp only[kR,sizes,ny];rw[b a S,e λp d=>b p (by simp[d])]
end Cn
variable{c:Cn}
def jA(c:UInt8):Bool:=(97<=c&&c<=122)||(65<=c&&c<=90)
def nP(s:St):Bool:=s.all λc=>jA c||c==95||(48<=c&&c<=57)
def lN(a b:Int):Int:=if a=0 then b else a
def iw(a b:Int):Int:=if a<b then-1 else if b<a then 1 else 0
def qx(a b:Nat):Int:=iw a b
def fV:St->St->Int
 |[],[]=>0
 |[],_::_=> -1
 |_::_,[]=>1
 |a::l,b::m=>if a<b then-1 else if b<a then 1 else fV l m
def FN(x y z:Int):Prop:=(x<0->y<0->z<0)/\(x=0->z=y)/\(y=0->z=x)
theorem FN.or{x y z e f g:Int}(h:FN x y z)(d:x=0->y=0->FN e f g):FN (lN x e) (lN y f) (lN z g):=by unfold FN lN at *;grind
theorem wV{a b:Int}:lN a b=0↔a=0/\b=0:=by unfold lN;grind
theorem Fj{a b:Int}: -lN a b=lN (-a) (-b):=by unfold lN;grind
theorem lQ{a b:Int}(c:a= -1\/a=0\/a=1)(hb:b= -1\/b=0\/b=1):lN a b= -1\/lN a b=0\/lN a b=1:=by unfold lN;grind
theorem Ck{a b:Int}:iw a b=0↔a=b:=by unfold iw;grind
theorem FP(a b:Int):iw b a= -iw a b:=by unfold iw;grind
theorem nH(a b c:Int):FN (iw a b) (iw b c) (iw a c):=by unfold FN iw;grind
theorem qW(a b:Int):iw a b= -1\/iw a b=0\/iw a b=1:=by unfold iw;grind
theorem pz(a b:UInt8)(l m:St):fV (a::l) (b::m)=lN (qx a.toNat b.toNat) (fV l m):=by(have e:qx a.toNat b.toNat=if a<b then-1 else if b<a then 1 else 0:=by unfold qx iw;simp only[UInt8.lt_iff_toNat_lt,Int.ofNat_lt]);rw[fV,e];unfold lN;grind
def uh:∀{a b:St},fV a b=0↔a=b
 |[],[]=>by simp[fV]
 |[],_::_=>by simp[fV]
 |_::_,[]=>by simp[fV]
 |a::l,b::m=>by
  rw[pz,wV,uh];unfold qx;rw[Ck,gu_];refine and_congr_left λ_=>⟨λh=>gm_.1 U,λh=>by rw[h]⟩
def FQ:∀(a b:St),fV b a= -fV a b
 |[],[]=>by simp[fV]
 |[],_::_=>by simp[fV]
 |_::_,[]=>by simp[fV]
 |a::l,b::m=>by
  rw[pz,pz,Fj,FQ l m];unfold qx;rw[FP]
def oG:∀(a b c:St),FN (fV a b) (fV b c) (fV a c)
 |[],b,c=>by cases b<;>cases c<;>simp[fV,FN]
 |a::l,[],c=>by cases c<;>simp[fV,FN]
 |a::l,b::m,[]=>by simp[fV,FN]
 |a::l,b::m,c::r=>by
  rw[pz,pz,pz];exact(nH _ _ _).or λ_ _=>oG l m r
def qX:∀(a b:St),fV a b= -1\/fV a b=0\/fV a b=1
 |[],[]=>by simp[fV]
 |[],_::_=>by simp[fV]
 |_::_,[]=>by simp[fV]
 |a::l,b::m=>by rw[pz];exact lQ (qW _ _) (qX l m)
mutual
def gF:Cn->Cn->Int
 | .mk k n l h ps,.mk k' n' l' h' qs=>lN (qx (Cn.sizes ps+1) (Cn.sizes qs+1)) (lN (iw k k') (lN (fV n n') (lN (iw l l') (lN (iw h h') (iD ps qs)))))
def iD:List Cn->List Cn->Int
 |[],[]=>0
 |[],_::_=> -1
 |_::_,[]=>1
 |a::l,b::m=>lN (gF a b) (iD l m)
end
def FR:∀(ps c:List Cn),(∀p∈ps,∀q,gF p q=0↔p=q)->(iD ps c=0↔ps=c)
 |[],[],_=>by simp[iD]
 |[],_::_,_=>by simp[iD]
 |_::_,[],_=>by simp[iD]
 |a::l,b::m,h=>by rw[iD,wV,h a S,FR l m λp d=>h p (by simp[d]),gu_]
theorem uj{a b:Cn}:gF a b=0↔a=b:=by
 revert b
 induction a using Cn.Sc with
 |h k n l g ps j=>
  intro b;obtain⟨r,n',s,t,m⟩:=b;(have:=FR ps m λp o q=>j p o);simp only[gF,wV,Ck,uh,this,qx,Cn.mk.injEq];constructor;(.grind);.rintro⟨d,e,f,i,c⟩;exact⟨by rw[c],d,e,f,i,c⟩
def Kh:∀(ps c:List Cn),(∀p∈ps,∀q,gF q p= -gF p q)->iD c ps= -iD ps c
 |[],[],_=>by simp[iD]
 |[],_::_,_=>by simp[iD]
 |_::_,[],_=>by simp[iD]
 |a::l,b::m,h=>by rw[iD,iD,Fj,h a S,Kh l m λp d=>h p (by simp[d])]
def Zg(a b:Cn):gF b a= -gF a b:=by
 revert b
 induction a using Cn.Sc with
 |h k n l g ps c=>
  intro b;obtain⟨f,n',i,j,d⟩:=b;(have:=Kh ps d λp e q=>c p e q);simp only[gF,Fj,<-FP,<-FQ,<-this,qx]
def Ki:∀(ps d R:List Cn),(∀p∈ps,∀q r,FN (gF p q) (gF q r) (gF p r))->FN (iD ps d) (iD d R) (iD ps R)
 |[],b,c,_=>by cases b<;>cases c<;>simp[iD,FN]
 |_::_,[],c,_=>by cases c<;>simp[iD,FN]
 |_::_,_::_,[],_=>by simp[iD,FN]
 |a::l,b::m,c::r,h=>by
  rw[iD,iD,iD];exact(h a S b c).or λ_ _=>Ki l m r λp e=>h p (by simp[e])
def FT(a b c:Cn):FN (gF a b) (gF b c) (gF a c):=by
 revert b c
 induction a using Cn.Sc with
 |h k n l g ps d=>
  intro b c;obtain⟨f,n',i,j,e⟩:=b;obtain⟨m,o,p,q,r⟩:=c;exact(nH _ _ _).or λ_ _=>(nH _ _ _).or λ_ _=>(oG _ _ _).or λ_ _=>(nH _ _ _).or λ_ _=>(nH _ _ _).or λ_ _=>Ki ps e r d
def Kj:∀(ps c:List Cn),(∀p∈ps,∀q,gF p q= -1\/gF p q=0\/gF p q=1)->iD ps c= -1\/iD ps c=0\/iD ps c=1
 |[],[],_=>by simp[iD]
 |[],_::_,_=>by simp[iD]
 |_::_,[],_=>by simp[iD]
 |a::l,b::m,h=>by rw[iD];exact lQ (h a S b) (Kj l m λp d=>h p (by simp[d]))
def OJ(a b:Cn):gF a b= -1\/gF a b=0\/gF a b=1:=by
 revert b
 induction a using Cn.Sc with
 |h k n l g ps c=>
  intro b;obtain⟨f,n',i,j,d⟩:=b;exact lQ (qW _ _) (lQ (qW _ _) (lQ (qX _ _) (lQ (qW _ _) (lQ (qW _ _) (Kj ps d λp e q=>c p e q)))))
def l9{k:IntKind}{a b:Int}(h:a=b):Ending.returned (.int k a)=.returned (.int k b):=by rw[h]
def fP{a b:Bool}(h:a=b):Ending.returned a=.returned b:=by rw[h]
theorem add_lit(b o i:Nat):(a_ b o:Addr).add i=a_ b (o+i):=by unfold Addr.add;grind
def X_(h:G w W)(o:Obj):G w (W.alloc o):=h.alloc h.size o
def b_{a:W_}(h:G w W)(k:G W a):G w a:=h.trans (k.mono h.size)
def Kk(h:G w W)(a:w.heap.size<=p.block)(u:V_):G w (W.setCell p u):=h.setCell a u
def oD{a:W_}(h:Below B a w)(n:Nat):Below B a (w.drewN n):=⟨h.os,h.tape,h.output,h.size,h.block⟩
def FU{a:W_}(hb:G W a):(∀b o,b<W.heap.size->a.cell? (a_ b o)=W.cell? (a_ b o))/\(∀b o,b<W.heap.size->a.frozen? (a_ b o)=W.frozen? (a_ b o)):=⟨λb o h=>hb.cell h,λb o h=>hb.frozen h⟩
def ji(w:W_)(a:A_)(t:T_)(o:Nat):(w.alloc (.cells a t)).cell? (a_ w o)=a[o]? :=by have:=de_ w (.cells a t);simp
def f_(w:W_)(g:Nat)(t:T_)(c:A_):Prop:=w.heap[g]?=some (.cells c t (0,0))
section
variable{w w':W_}{g:Nat}{t:T_}{cs:A_}
theorem f_.lt(h:f_ w g t cs):g<w:=by rcases Ke g w with a|b;(.exact a);.unfold f_ at h;grind
def f_.cell(h:f_ w g t cs)(i:Nat):w.cell? (a_ g i)=cs[i]? :=dc_ w g i cs t (0,0) h
def f_.frozen(h:f_ w g t cs)(i:Nat):w.frozen? (a_ g i)=false:=by unfold f_ at h;simp[World.frozen?,h]
def f_.new(w:W_)(t:T_)(cs:A_):f_ (L_ w t cs) w t cs:=de_ w _
def f_.newAt(w:W_)(t:T_)(cs:A_)(h:n=w):f_ (L_ w t cs) n t cs:=by subst h;exact de_ w _
def f_.drew(h:f_ w g t cs):f_ w.drew g t cs:=h
def f_.drewN(h:f_ w g t cs)(n:Nat):f_ (w.drewN n) g t cs:=h
def f_.alloc(h:f_ w g t cs)(o:Obj):f_ (w.alloc o) g t cs:=(OH w o g h.lt).trans h
def f_.iK(h:f_ w g t cs)(i:Nat)(u:V_):f_ (w.setCell (a_ g i) u) g t (cs.setIfInBounds i u):=by unfold f_ at h ⊢;simp[World.setCell,gr_,h]
def f_.far(h:f_ w g t cs)(a:g≠p.block)(u:V_):f_ (w.setCell p u) g t cs:=(Fg w p u g a).trans h
def f_.below(h:f_ w g t cs)(hb:G w w'):f_ w' g t cs:=(hb.block g h.lt).trans h
def bk(hb:G w w')(h:f_ w g t cs):f_ w' g t cs:=(hb.block g h.lt).trans h
def f_.grown(h:f_ w g t cs)(hb:w.grownBy w' row)(a:some g≠row):f_ w' g t cs:=(hb.block g h.lt a).trans h
end
def Ao(w:W_)(enc:α->O_)(k b o:Nat)(l:List α):Prop:=∀i x,l[i]?=some x->∀j u,(enc x)[j]?=some u->N w b (o+i*k+j) u
def Sl(w:W_)(B:Nat)(enc:α->O_)(k:Nat)(v:V_)(l:List α):Prop:=∃A c,v=.slice A (l_ l) c/\l_ l<=c/\c<=m_/\(0<l_ l->∃b o,A=some ⟨b,o,none⟩/\b<B/\Ao w enc k b o l)
section
variable{α:Type}{w w':W_}{B B':Nat}{enc:α->O_}{k:Nat}{v:V_}{l:List α}
def Ao.keep{b a:Nat}(h:Ao w enc k b a l)(c:∀o,w'.cell? (a_ b o)=w.cell? (a_ b o)):Ao w' enc k b a l:=λi x hi j u d=>(c _).trans (h i x hi j u d)
def Sl.keep(h:Sl w B enc k v l)(a:∀p:Addr,p.block<B->w'.cell? p=w.cell? p):Sl w' B enc k v l:=by obtain⟨A,c,g,H,d,f⟩:=h;refine⟨A,c,g,H,d,λhl=>?_⟩;obtain⟨b,i,e,hb,j⟩:=f hl;exact⟨b,i,e,hb,j.keep λo=>a _ hb⟩
theorem Sl.more(h:Sl w B enc k v l)(e:B<=B'):Sl w B' enc k v l:=by obtain⟨A,c,b,H,a,d⟩:=h;refine⟨A,c,b,H,a,λhl=>?_⟩;grind
def Sl.below(h:Sl w B enc k v l)(hb:Below B w w'):Sl w' B enc k v l:=h.keep λ_ a=>hb.cell a
def Sl.nil(w:W_)(B:Nat)(enc:α->O_)(k:Nat):Sl w B enc k () []:=⟨none,0,rfl,gH _,by simp,λh=>by simp at h⟩
def Sl.jH(h:Sl w B enc k v l):l_ l<=m_:=by obtain⟨A,c,_,a,b,_⟩:=h;omega
end
def Later(w:W_):Type:={W:W_ // G w W}
def Later.at(s:Later w):W_:=s.1
def Later.below(s:Later w):G w s.at:=s.2
instance Later.nonempty(w:W_):Nonempty (Later w):=⟨⟨w,fu _ _⟩⟩
def iy{b:Nat}{Q:Exit->Act->W_->Prop}{l:List Oper}(c:P.follows .mixedOrders=true)(H:Region.lexB .any l.toArray=true)(h:wpQuiet P l.toArray (λw'=>∃s:Later w,w'=s.at) (λd=>∀w',(∃s:Later w,w'=s.at)->Q .normal d w') l a):(Code.region b l.toArray true).wp P Q a w:=wp_region_quiet (C:=λw'=>∃s:Later w,w'=s.at) c H ⟨⟨_,(fu _ w).drew⟩,rfl⟩ (Q_ h)
def oH{s:Later w}(h:Calls P f args s.at λe w'=>e=.returned v/\Below s.at.heap.size s.at w'):Calls P f args s.at λe c=>e=.returned v/\∃a:Later w,c=a.at:=h.mono λ_ w' ⟨b,hb⟩=>⟨b,⟨w',b_ s.2 hb⟩,rfl⟩
def K_{c:A_}(h:f_ w g t c)(i:Nat)(hi:c[i]?=some u):∀s:Later w,N s.at g i u:=λs=>((bk s.2 h).cell i).trans hi
def fq(h:w.cell? p=some u):∀s:Later w,s.at.cell? p=some u:=λs=>(s.below.cell (zK w p h)).trans h
section
variable{α:Type}
def wW(enc:α->O_)(k:Nat)(a:∀x,l_ (enc x)=k)(l:List α):l_ (l.flatMap enc)=l_ l*k:=by
 induction l with
 |nil=>simp
 |cons x l b=>simp[a,b,dx_];omega
theorem nY(enc:α->O_)(k:Nat)(a:∀x,l_ (enc x)=k)(l:List α)(i j:Nat)(x:α)(hi:l[i]?=some x)(c:j<k):(l.flatMap enc)[i*k+j]?=(enc x)[j]? :=by
 induction l generalizing i with
 |nil=>simp at hi
 |cons y l b=>
  rw[OD]
  cases i with
  |zero=>
   simp at hi;subst hi;rw[cz_ (by grind)];simp
  |succ i=>
   rw[db_ (by grind),a];(have:(i+1)*k+j-k=i*k+j:=by grind);rw[this];exact b i (Q hi)
end
section
variable{P:Program}(w:W_)
def Ap(base:Nat)(t b e:T_)(i:TypeInfo)(size:Nat)(a:P.underlying t=some (.slice e))(hi:P.info? e=some i)(v:V_)(n:Nat)(xs:O_)(f:w.ownsRow base e size v n xs)(c:Nat):(Builtin.append_ #[t,t] b #[v,.slice none 0 c]).run P w=.ok v w:=by rcases f.2 with⟨rfl,rfl⟩|⟨g,cap,h,rfl,_,_,d,_⟩;(.simp[Builtin.append_,run_underlying a,sizeOf,typeInfo,hi,Builtin.lenOf,Builtin.firstCells]);.simp[Builtin.append_,run_underlying a,sizeOf,typeInfo,hi,Builtin.lenOf,Builtin.firstCells,d,storeCells]
theorem Jh(enc:α->O_)(base:Nat)(t f e:T_)(i:TypeInfo)(z:V_)(size a:Nat)(r:P.underlying t=some (.slice e))(hi:P.info? e=some i)(F:i.zero=some z)(M:i.size=size)(X:i.bytes=a)(Z:z.cells.size=size)(p:0<size)(v:V_)(n:Nat)(xs:O_)(q:w.ownsRow base e size v n xs)(B:Nat)(u:V_)(l:List α)(s:∀x,l_ (enc x)=size)(H:Sl w B enc size u l)(I:∀x∈l,∀u∈enc x,u.oneCell'=true)(g:n+l_ l<=m_)(R:(n+l_ l)*a<=140737488355328)(N:base<=w):∃v' w',(Builtin.append_ #[t,t] f #[v,u]).run P w=.ok v' w'/\w'.ownsRow base e size v' (n+l_ l) (xs++l.flatMap enc)/\w.grownBy w' v.ownBlock/\ (v'.ownBlock=v.ownBlock\/v'.ownBlock=some w):=by obtain⟨A,c,rfl,Y,V,y⟩:=H;have hl:l_ (l.flatMap enc)=l_ l*size:=wW enc size s l;(have G:∀u∈l.flatMap enc,u.oneCell'=true:=by grind);rcases A with _|C;(·(have h:l_ l=0:=by grind);have k:l=[]:=Jg h;subst k;exact⟨v,w,Ap w base t f e i size r hi v n xs q c,Q q,R8 w _,.inl rfl⟩);·(have S:∀j u,(l.flatMap enc)[j]?=some u->w.cell? (C.add j)=some u:=by intro j u d;(have m:j<l_ l*size:=by grind);(have J:0<l_ l:=by grind);obtain⟨b,ap,o,hb,O⟩:=y J;injection o with o;subst o;have hd:j / size<l_ l:=(Nat.div_lt_iff_lt_mul p).2 m;have K:j % size<size:=Nat.mod_lt _ p;have E:=nY enc size s l (j / size) (j % size) l[j / size] (by grind) K;(have D:j / size*size+j % size=j:=by rw[OI];exact Nat.div_add_mod j size);rw[D,d]at E;have:=O (j / size) l[j / size] (by grind) (j % size) u E.symm;rw[add_lit];grind);obtain⟨v',w',U,L,T,_,W⟩:=run_append_own_at (P:=P) w base t f e i z size a r hi F M X Z p v n xs q C (l_ l) c (l.flatMap enc) hl S G g R N;grind
def Aq(enc:α->O_){o:Oper}{K:Act->W_->Prop}{Q:Exit->Act->W_->Prop}(s x:Operand)(t:T_)(b:o.op=.call {callee:= .builtin .append,args:= #[s,x],argTypes:= #[t,t]})(base:Nat)(e:T_)(i:TypeInfo)(z:V_)(size g:Nat)(c:P.underlying t=some (.slice e))(hi:P.info? e=some i)(d:i.zero=some z)(T:i.size=size)(C:i.bytes=g)(E:z.cells.size=size)(F:0<size)(v:V_)(n:Nat)(xs:O_)(f:a.eval s=v)(I:w.ownsRow base e size v n xs)(B:Nat)(u:V_)(l:List α)(j:∀x,l_ (enc x)=size)(m:a.eval x=u)(p:Sl w B enc size u l)(q:∀x∈l,∀u∈enc x,u.oneCell'=true)(H:n+l_ l<=m_)(X:(n+l_ l)*g<=140737488355328)(W:base<=w)(h:∀v' w',w'.ownsRow base e size v' (n+l_ l) (xs++l.flatMap enc)->w.grownBy w' v.ownBlock->(v'.ownBlock=v.ownBlock\/v'.ownBlock=some w.heap.size)->K (a.put o.dst v') w'):o.wp P a w K Q:=by obtain⟨v',w',L,r,y,A⟩:=Jh w enc base t o.type e i z size g c hi d T C E F v n xs I B u l j p q H X W;unfold Oper.wp execOp;simp only[b,resolve,invoke,builtin,Sem.run_bind,Sem.run_pure,Result.andThen_ok,List.map_toArray,Zc,List.map_nil,f,m,L];exact h v' w' r y A
def gQ(enc:α->O_){R:List Oper}{o:Oper}{Q:Exit->Act->W_->Prop}(F:o.guard=none)(s x:Operand)(t:T_)(c:o.op=.call {callee:= .builtin .append,args:= #[s,x],argTypes:= #[t,t]})(base:Nat)(e:T_)(i:TypeInfo)(z:V_)(size g:Nat)(d:P.underlying t=some (.slice e))(hi:P.info? e=some i)(f:i.zero=some z)(W:i.size=size)(H:i.bytes=g)(I:z.cells.size=size)(K:0<size)(v:V_)(n:Nat)(xs:O_)(j:a.eval s=v)(T:w.ownsRow base e size v n xs)(B:Nat)(u:V_)(l:List α)(m:∀x,l_ (enc x)=size)(p:a.eval x=u)(q:Sl w B enc size u l)(r:∀x∈l,∀u∈enc x,u.oneCell'=true)(L:n+l_ l<=m_)(Z:(n+l_ l)*g<=140737488355328)(X:base<=w)(h:∀v' w',w'.ownsRow base e size v' (n+l_ l) (xs++l.flatMap enc)->w.grownBy w' v.ownBlock->(v'.ownBlock=v.ownBlock\/v'.ownBlock=some w.heap.size)->wpList P b Q R (a.put o.dst v') w'):wpList P b Q (o::R) a w:=gt_ F λ_ y=>Aq w enc s x t c base e i z size g d hi f W H I K v n xs j T B u l m p q r L Z X λv' w' A C E=>y _ _ (h v' w' A C E)
def gI(enc:α->O_){o:Oper}{K:Act->W_->Prop}{Q:Exit->Act->W_->Prop}(y:o.guard=none)(s x:Operand)(t:T_)(c:o.op=.call {callee:= .builtin .append,args:= #[s,x],argTypes:= #[t,t]})(base:Nat)(e:T_)(i:TypeInfo)(z:V_)(size g:Nat)(d:P.underlying t=some (.slice e))(hi:P.info? e=some i)(f:i.zero=some z)(L:i.size=size)(A:i.bytes=g)(C:z.cells.size=size)(F:0<size)(v:V_)(n:Nat)(xs:O_)(j:a.eval s=v)(I:w.ownsRow base e size v n xs)(B:Nat)(u:V_)(l:List α)(m:∀x,l_ (enc x)=size)(p:a.eval x=u)(q:Sl w B enc size u l)(r:∀x∈l,∀u∈enc x,u.oneCell'=true)(H:n+l_ l<=m_)(W:(n+l_ l)*g<=140737488355328)(T:base<=w)(h:∀v' w',w'.ownsRow base e size v' (n+l_ l) (xs++l.flatMap enc)->w.grownBy w' v.ownBlock->(v'.ownBlock=v.ownBlock\/v'.ownBlock=some w.heap.size)->K (a.put o.dst v') w'):if Region.wanted o (yielded b a.tmps)=true then Oper.wp P o a w K Q else E:=by(have hw:Region.wanted o (yielded b a.tmps)=true:=by simp[Region.wanted,y]);rw[P_ hw];exact Aq w enc s x t c base e i z size g d hi f L A C F v n xs j I B u l m p q r H W T h
end
section
variable{c:Nat}{a:W_}
variable{α:Type}{w w':W_}{B:Nat}{f:α->V_}{v:V_}{l:List α}
def enc1(f:α->V_)(x:α):O_:=[f x]
def OL(f:α->V_):∀l:List α,l.flatMap (enc1 f)=l.map f
 |[]=>rfl
 |x::l=>by rw[OD,OL f l];rfl
def S1(w:W_)(f:α->V_)(v:V_)(l:List α):Prop:=Sl w w (enc1 f) 1 v l
def S1.up(h:S1 w f v l)(hb:G w w'):S1 w' f v l:=(Sl.below h hb).more hb.size
def S1.al(h:S1 w f v l)(o:Obj):S1 (w.alloc o) f v l:=h.up ((fu _ _).alloc (gH _) _)
def S1.nil(w:W_)(f:α->V_):S1 w f () []:=Sl.nil _ _ _ _
def S1.jH(h:S1 w f v l):l_ l<=m_:=Sl.jH h
theorem S1.form(h:S1 w f v l):∃A c,v=.slice A (l_ l) c/\l_ l<=c/\c<=m_/\(0<l_ l->∃b a,A=some ⟨b,a,none⟩/\b<w/\∀i x,l[i]?=some x->N w b (a+i) (f x)):=by obtain⟨A,c,g,H,d,j⟩:=h;refine⟨A,c,g,H,d,λm=>?_⟩;obtain⟨b,a,e,hb,n⟩:=j m;refine⟨b,a,e,hb,λi x hi=>?_⟩;have:=n i x hi 0 _ rfl;grind
def S1.mk(H:l_ l<=c)(h:c<=m_)(m:0<l_ l->∃b d,A=some ⟨b,d,none⟩/\b<w/\∀i x,l[i]?=some x->N w b (d+i) (f x)):S1 w f (.slice A (l_ l) c) l:=by
 refine⟨A,c,rfl,H,h,λn=>?_⟩;obtain⟨b,d,e,hb,o⟩:=m n;refine⟨b,d,e,hb,λi x hi j u a=>?_⟩
 match j,a with
 |0,a=>simp[enc1]at a;subst a;simpa using o i x hi
 |j+1,a=>simp[enc1]at a
theorem S1.lit(w:W_)(n:Nat)(a:n=w)(t:T_)(c:A_)(f:α->V_)(l:List α)(m:Nat)(b:m=l_ l)(h:c=(l.map f).toArray)(hl:l_ l<=m_):S1 (L_ w t c) f (.slice n m m) l:=by subst a b h;(refine S1.mk (gH _) hl λ_=>⟨w,0,rfl,S,λi x hi=>?_⟩);rw[ji];grind
theorem jg(h:w.ownsRow base e 1 v (l_ l) (l.map f)):S1 w f v l:=by rcases h.2 with⟨rfl,a⟩|⟨g,cap,n,rfl,hb,b,d,c,j,m⟩;(.have:=Jg a;subst this;exact S1.nil _ _);·(refine S1.mk d c λ_=>⟨g,0,rfl,(yZ.1 b).1,λi x hi=>?_⟩);have:=h.cells rfl i (f x) (by grind);rw[add_lit]at this;grind
def n_{size:Nat}(h:w.ownsRow base e size v n xs):∃A c,v=.slice A n c:=by rcases h.2 with⟨rfl,rfl⟩|⟨_,_,_,rfl,_⟩<;>exact⟨_,_,rfl⟩
theorem gJ{B e size:Nat}{v:V_}(h:W.ownsRow B e size v n xs)(hb:Below W W a):a.ownsRow B e size v n xs:=h.kept (row:=none) ⟨hb.os,hb.tape,hb.output,hb.size,λk b _=>hb.block k b⟩ (by grind)
theorem jD{B B' e size:Nat}{v:V_}(h:W.ownsRow B e size v n xs)(H:B'<=B):W.ownsRow B' e size v n xs:=by refine⟨h.1,?_⟩;rcases h.2 with a|⟨g,cap,b,c,hb,r⟩;(.grind);.exact .inr ⟨g,cap,b,c,gY H hb,r⟩
def jc(h:w.cell? p=some u)(o:Obj):(w.alloc o).cell? p=some u:=(((fu w w).alloc (gH _) o).cell (zK w p h)).trans h
def sG(hb:G w W)(b:W.grownBy a r)(c:∀k,r=some k->w<=k):G w a:=hb.grown b hb.size c
end
abbrev iV(x:Int):V_:= .int .i64 x
abbrev SI(w:W_)(v:V_)(l:List Int):Prop:=S1 w iV v l
def SP(w:W_)(v:V_)(ps:List (V_×I_)):Prop:=S1 w (·.1) v ps/\∀p∈ps,SI w p.1 p.2
def SS(w:W_)(v:V_)(L:H_):Prop:=∃ps:List (V_×I_),ps.map (·.2)=L/\SP w v ps
def SP.up(h:SP w v ps)(hb:G w w'):SP w' v ps:=⟨h.1.up hb,λp a=>(h.2 p a).up hb⟩
def SS.up{L:H_}(h:SS w v L)(hb:G w w'):SS w' v L:=by obtain⟨ps,e,h⟩:=h;exact⟨ps,e,h.up hb⟩
def SS.nil(w:W_):SS w () []:=⟨[],rfl,S1.nil _ _,λ_ h=>by cases h⟩
theorem SS.form{L:H_}(h:SS w v L):∃A c,v=.slice A (l_ L) c/\l_ L<=c/\c<=m_/\ (0<l_ L->∃b a,A=some ⟨b,a,none⟩/\b<w/\∀i x,L[i]?=some x->∃u,N w b (a+i) u/\SI w u x):=by obtain⟨ps,rfl,j,m⟩:=h;obtain⟨A,c,rfl,H,n,o⟩:=j.form;grind
theorem SI.slice_form{l:I_}(h:SI w v l):∃A c,v=.slice A (l_ l) c:=by obtain⟨A,c,e,_⟩:=h;grind
structure Ax where
 K:Int
 op:Bool
 L:Cn
 R:Cn
 H:List St
 U:St
 a:St
 b:St
variable{x:Ax}{L:List Ax}
def iA:List St->List St->Int
 |[],[]=>0
 |[],_::_=> -1
 |_::_,[]=>1
 |a::l,b::m=>lN (fV a b) (iA l m)
def Sd:∀{a b:List St},iA a b=0↔a=b
 |[],[]=>by simp[iA]
 |[],_::_=>by simp[iA]
 |_::_,[]=>by simp[iA]
 |a::l,b::m=>by rw[iA,wV,Sd,uh,gu_]
def Kl:∀(a b c:List St),FN (iA a b) (iA b c) (iA a c)
 |[],b,c=>by cases b<;>cases c<;>simp[iA,FN]
 |a::l,[],c=>by cases c<;>simp[iA,FN]
 |a::l,b::m,[]=>by simp[iA,FN]
 |a::l,b::m,c::r=>by rw[iA,iA,iA];exact(oG _ _ _).or λ_ _=>Kl l m r
def Km:∀(a b:List St),iA a b= -1\/iA a b=0\/iA a b=1
 |[],[]=>by simp[iA]
 |[],_::_=>by simp[iA]
 |_::_,[]=>by simp[iA]
 |a::l,b::m=>by rw[iA];exact lQ (qX _ _) (Km l m)
def uV(c:Cn):Nat:=if c.K=0 then 0 else c.size
def FV(s:St):Nat:=if s=[] then 0 else 1
def weight(x:Ax):Nat:=uV x.L+uV x.R+l_ x.H+FV x.U+FV x.a+FV x.b
def lg(x y:Ax):Int:=lN (qx (weight x) (weight y)) (lN (iw x.K y.K) (lN (gF x.L y.L) (lN (gF x.R y.R) (lN (iA x.H y.H) (lN (fV x.U y.U) (lN (fV x.a y.a) (fV x.b y.b)))))))
def Zh(x y z:Ax):FN (lg x y) (lg y z) (lg x z):=by unfold lg qx;exact(nH _ _ _).or λ_ _=>(nH _ _ _).or λ_ _=>(FT _ _ _).or λ_ _=>(FT _ _ _).or λ_ _=>(Kl _ _ _).or λ_ _=>(oG _ _ _).or λ_ _=>(oG _ _ _).or λ_ _=>oG _ _ _
def Zi(x y:Ax):lg x y= -1\/lg x y=0\/lg x y=1:=by unfold lg qx;exact lQ (qW _ _) (lQ (qW _ _) (lQ (OJ _ _) (lQ (OJ _ _) (lQ (Km _ _) (lQ (qX _ _) (lQ (qX _ _) (qX _ _)))))))
def EJ(x:Cn):List Cn->List Cn
 |[]=>[x]
 |y::l=>if gF x y<0 then x::y::l else if gF x y=0 then y::l else y::EJ x l
def oI(l:List Cn):List Cn:=l.foldr EJ []
abbrev EK(a b:Cn):Prop:=gF a b<0
def um{a b:Cn}(d:EK a b)(e:EK b c):EK a c:=(FT a b c).1 d e
def uW(a:Cn):¬EK a a:=by unfold EK;rw[uj.2 rfl];decide
def zL{a b:Cn}(c:¬gF a b<0)(d:gF a b≠0):EK b a:=by unfold EK;rw[Zg];omega
def Ay(x z:Cn):∀l:List Cn,z∈EJ x l↔z=x\/z∈l
 |[]=>by simp[EJ]
 |y::l=>by
  unfold EJ;by_cases a:gF x y<0;(.rw[P_ a];simp);.by_cases b:gF x y=0;(.rw[C_ a,P_ b,uj.1 b];simp);.rw[C_ a,C_ b,jL,Ay x z l,jL];constructor;(.rintro(h|h|h);(.exact .inr (.inl h));(.exact .inl h);.exact .inr (.inr h));.rintro(h|h|h);(.exact .inr (.inl h));(.exact .inl h);.exact .inr (.inr h)
def DR(x:Cn):∀{l:List Cn},l.Pairwise EK->(EJ x l).Pairwise EK
 |[],_=>by simp[EJ]
 |y::l,h=>by
  obtain⟨c,d⟩:=EI.1 h;unfold EJ;by_cases g:gF x y<0;(.rw[P_ g];refine EI.2 ⟨λz a=>?_,h⟩;rcases jL.1 a with rfl|a;(.exact g);.exact um g (c z a));.by_cases b:gF x y=0;(.rwa[C_ g,P_ b]);.rw[C_ g,C_ b];refine EI.2 ⟨λz a=>?_,DR x d⟩;rcases(Ay x z l).1 a with rfl|a;(.exact zL g b);.exact c z a
def Kn(z:Cn):∀l:List Cn,z∈oI l↔z∈l
 |[]=>by simp[oI]
 |y::l=>by
  have:=Kn z l;unfold oI at *;rw[el_,Ay,this,jL]
def Az:∀l:List Cn,(oI l).Pairwise EK
 |[]=>by simp[oI]
 |y::l=>by
  have:=Az l;unfold oI at *;rw[el_];exact DR y this
def wX:∀{a b:List Cn},a.Pairwise EK->b.Pairwise EK->(∀x,x∈a↔x∈b)->a=b
 |[],[],_,_,_=>rfl
 |[],y::b,_,_,h=>by have:=(h y).2 S;cases this
 |x::a,[],_,_,h=>by have:=(h x).1 S;cases this
 |x::a,y::b,ha,hb,h=>by
  have d:=EI.1 ha;have f:=EI.1 hb;(have m:∀{u v:Cn},EK u v->EK v u->False:=λi j=>uW _ (um i j));(have e:x=y:=by rcases jL.1 ((h x).1 S) with e|k;(.exact e);.rcases jL.1 ((h y).2 S) with e|l;(.exact e.symm);.exact(m (d.1 y l) (f.1 x k)).elim);subst e;congr 1;(refine wX d.2 f.2 λz=>⟨λc=>?_,λc=>?_⟩);(.rcases jL.1 ((h z).1 (by simp[c])) with e|g;(.subst e;exact absurd (d.1 z c) (uW z));.exact g);.rcases jL.1 ((h z).2 (by simp[c])) with e|g;(.subst e;exact absurd (f.1 z c) (uW z));.exact g
def y8(l:List Cn):Cn×Int:=
 match l.find? λc=>decide (c.K=2) with
 |some c=>(c,0)
 |none=>match l with
  |[]=>(.mk 1 [] 0 0 [],0)
  |[c]=>(c,0)
  |l=>if 8<l_ l then(Cn.nil,2) else(.mk 5 [] 0 0 l,0)
mutual
def fB:Cn->Cn×Int
 | .mk k n l h ps=>if k=6 then Ko n ps else if k=5 then match meets ps with
  |(x,e)=>if e=0 then y8 (oI x) else(Cn.nil,e)
   else(.mk k n l h ps,0)
def Ko(n:St):List Cn->Cn×Int
 |[]=>(Cn.nil,0)
 |p::_=>match fB p with
  |(q,e)=>if e≠0\/q.K=2 then(q,e) else(.mk 6 n 0 0 [q],0)
def meets:List Cn->List Cn×Int
 |[]=>([],0)
 |p::ps=>match fB p with
  |(q,e)=>if e≠0 then([],e) else match meets ps with
   |(l,f)=>if f≠0 then([],f) else((if q.K=1 then[] else if q.K=5 then q.J else[q])++l,0)
end
structure PP where
 p:W_->Prop
 up:∀w w':W_,p w->G w w'->p w'
section
variable{w w':W_}
end
def kws:List St:=[[97,110,100],[115,111,109,101],[105,110],[116,111],[110,111,116,104,105,110,103],[101,118,101,114,121,116,104,105,110,103],[111,110,101],[111,102],[111,112,101,110],[112,114,105,118,97,116,101],[115,117,98],[115,97,109,101],[100,105,115,106,111,105,110,116],[100,111,109,97,105,110],[114,111,108,101],[99,104,97,105,110],[114,101,102,108,101,120,105,118,101],[116,121,112,101],[108,105,110,107],[115,101,108,101,99,116],[119,104,101,114,101],[111,114]]
def kr(s:St):Bool:=match s with|[]=>false|c::_=>jA c&&nP s&& !kws.contains s
def pE:St->St×Option St
 |[]=>([],none)
 |c::s=>if c=58 then([],some s) else match pE s with
  |(a,r)=>(c::a,r)
def fK(s:St):Bool:=if 24<l_ s then false else match pE s with|(a,none)=>kr a|(a,some b)=>kr a&&kr b
def iP(s:St):Bool:=match s with|c::_::_=>c==95&&nP s&&decide (l_ s<=24)|_=>false
def Y_(s:St):Bool:=fK s||iP s
def iH(k:Int):Nat:=if k=3\/k=6\/k=7 then 1 else if k=4 then 2 else 0
def kU(k:Int):Nat:=if k=5 then 2 else if k=6 then 1 else 0
def nI(k:Int):Nat:=if k=5 then 8 else if k=6 then 1 else 0
def maxNum:Int:=1099511627776
def fU(c:Cn):Int:=
 if c.K<1\/7<c.K then 21
 else if l_ c.J<kU c.K\/nI c.K<l_ c.J\/(iH c.K=0/\c.N≠[]) then 21
 else if(c.K=7/\(c.lo< -maxNum\/c.hi<c.lo\/maxNum<c.hi))\/(c.K≠7/\(c.lo≠0\/c.hi≠0)) then 21
 else if iH c.K=0\/fK c.N=true\/(iH c.K=2/\iP c.N=true) then 0 else 20
def j4:List Cn->Int
 |[]=>0
 |c::l=>if fU c≠0 then fU c else j4 l
def Kq(c:Cn):Prop:=c.deep<=8/\c.size<=64
instance(c:Cn):Decidable (Kq c):=inferInstanceAs (Decidable (_/\_))
def u_(c:Cn):Int:=if Kq c then j4 c.pre else 21
mutual
def p9:Cn->Bool| .mk k _ _ _ ps=>if k=4 then true else if k=5 then jd ps else false
def jd:List Cn->Bool|[]=>false|c::l=>p9 c||jd l
end
def qY(c:Cn):Bool:=decide (c.K=0)&&decide (c.N=[])&&decide (c.lo=0)&&decide (c.hi=0)&&c.J.isEmpty
def jB(k:Int):Bool:=decide (k=1\/k=2\/k=3)
def jk(k:Int):Bool:=decide (k=1\/k=2\/k=3\/k=4\/k=8)
def nJ(k:Int):Bool:=decide (k=4\/k=5\/k=6\/k=7\/k=9)
def uA(k:Int):Bool:=decide (k=8\/k=9)
def uB(k:Int):Bool:=decide (k=9)
def kE(k:Int):Nat:=if k=5 then 1 else if k=6 then 2 else 0
def nZ(k:Int):Nat:=if k=5 then 1 else if k=6 then 4 else 0
def iN(x:Ax):Bool:=decide (1<=x.K/\x.K<=9)&&(jB x.K||qY x.L)&&(jk x.K||qY x.R)&&(nJ x.K||decide (x.U=[]))&&(uA x.K||decide (x.a=[]))&&(uB x.K||decide (x.b=[]))&&
 decide (kE x.K<=l_ x.H/\l_ x.H<=nZ x.K)
def nU(x:Ax):Bool:=(!nJ x.K||fK x.U)&&(!uA x.K||Y_ x.a)&&(!uB x.K||Y_ x.b)&&x.H.all fK
def Z_(x:Ax):Int:=
 if iN x=false then 22 else if nU x=false then 20
 else if jB x.K=true/\u_ x.L≠0 then u_ x.L
 else if jk x.K=true/\u_ x.R≠0 then u_ x.R
 else if(x.K=2/\(p9 x.L=true\/p9 x.R=true))\/((x.K=1\/x.K=4\/x.K=8)/\p9 x.R=true) then 22 else 0
def Cm:Ax:=⟨0,false,Cn.nil,Cn.nil,[],[],[],[]⟩
def fD(x:Ax):Ax×Int:=
 if Z_ x≠0 then(Cm,Z_ x) else
 let l:=if jB x.K then fB x.L else(x.L,0)
 if l.2≠0 then(Cm,l.2) else
 let r:=if jk x.K then fB x.R else(x.R,0)
 if r.2≠0 then(Cm,r.2) else
 if(x.K=2\/x.K=3)/\0<gF l.1 r.1 then({x with L:=r.1,R:=l.1},0) else({x with L:=l.1,R:=r.1},0)
abbrev d_(s:St):V_:= .string ⟨s.toArray⟩
mutual
def nV(w:W_):Cn->O_->Prop
 | .mk k n l h ps,cs=>∃A cap,cs=[.int .i64 k,d_ n,.int .i64 l,.int .i64 h,.slice A (l_ ps) cap]/\l_ ps<=cap/\cap<=m_/\ (0<l_ ps->∃b off,A=some ⟨b,off,none⟩/\b<w/\qI w ps b off)
def qI(w:W_):List Cn->Nat->Nat->Prop
 |[],_,_=>True
 |c::l,b,off=>(∃cs,(∀(j:Nat) u,cs[j]?=some u->N w b (off+j) u)/\nV w c cs)/\qI w l b (off+5)
end
section
variable{a:O_}
variable{w w':W_}
def nV.up(h:nV w c a)(hb:G w w'):nV w' c a:=by suffices q:∀a,nV w c a->nV w' c a from q a h;refine Cn.rec (motive_2:=λps=>∀b d,b<w.heap.size->qI w ps b d->qI w' ps b d) ?_ ?_ ?_ c;(.intro k n l g ps r a h;unfold nV at h ⊢;obtain⟨A,cap,e,i,m,s⟩:=h;refine⟨A,cap,e,i,m,λt=>?_⟩;obtain⟨b,d,v,f,o⟩:=s t;exact⟨b,d,v,qO f hb.size,r b d f o⟩);(.intro b d _ _;unfold qI;trivial);.intro c l i m b d f h;unfold qI at h ⊢;obtain⟨⟨a,H,o⟩,h⟩:=h;exact⟨⟨a,λj u x=>(hb.cell f).trans (H j u x),i a o⟩,m b _ f h⟩
def qI.get:∀{ps:List Cn}{b d:Nat},qI w ps b d->∀{i:Nat}{p:Cn},ps[i]?=some p->∃a,(∀(j:Nat) u,a[j]?=some u->N w b (d+5*i+j) u)/\nV w p a
 |[],_,_,_,_,_,hi=>by simp at hi
 |c::l,b,d,h,0,p,hi=>by
  simp at hi;subst hi;unfold qI at h;simpa using h.1
 |c::l,b,d,h,i+1,p,hi=>by
  unfold qI at h;obtain⟨a,e,f⟩:=qI.get h.2 (Q hi);exact⟨a,λj u g=>by rw[<-e j u g];congr 2;omega,f⟩
def qI.of:∀{ps:List Cn}{b g:Nat},(∀i p,ps[i]?=some p->∃a,(∀(j:Nat) u,a[j]?=some u->N w b (g+5*i+j) u)/\nV w p a)->qI w ps b g
 |[],_,_,_=>by unfold qI;trivial
 |c::l,b,g,h=>by
  unfold qI;obtain⟨a,d,e⟩:=h 0 c rfl;refine⟨⟨a,λj u f=>by have:=d j u f;simpa using this,e⟩,qI.of λi p k=>?_⟩;obtain⟨a,d,e⟩:=h (i+1) p (Q k);exact⟨a,λj u f=>by rw[<-d j u f];congr 2;omega,e⟩
def CV(w:W_)(v:V_)(c:Cn):Prop:=∃C,v=.agg C.toArray/\nV w c C
def CV.up(h:CV w v c)(hb:G w w'):CV w' v c:=by obtain⟨a,e,h⟩:=h;exact⟨a,e,h.up hb⟩
def CV.form(h:CV w v c):∃A cap,v=.agg #[c.K,d_ c.N,c.lo,c.hi,.slice A (l_ c.J) cap]/\l_ c.J<=cap/\cap<=m_/\ (0<l_ c.J->∃b a,A=some ⟨b,a,none⟩/\b<w/\∀i p,c.J[i]?=some p->∃d,(∀(j:Nat) u,d[j]?=some u->N w b (a+5*i+j) u)/\nV w p d):=by obtain⟨d,rfl,h⟩:=h;obtain⟨k,n,l,g,ps⟩:=c;unfold nV at h;obtain⟨A,cap,rfl,e,f,m⟩:=h;refine⟨A,cap,rfl,e,f,λo=>?_⟩;obtain⟨b,a,q,t,r⟩:=m o;exact⟨b,a,q,t,λi p s=>r.get s⟩
def nV.cells(h:nV w c a):∃A cap,a=[.int .i64 c.K,d_ c.N,.int .i64 c.lo,.int .i64 c.hi,.slice A (l_ c.J) cap]:=by obtain⟨k,n,l,g,ps⟩:=c;unfold nV at h;obtain⟨A,cap,rfl,_⟩:=h;exact⟨A,cap,rfl⟩
def nV.cv(h:nV w c a):CV w (.agg a.toArray) c:=⟨a,rfl,h⟩
end
abbrev jQ(w:W_)(v:V_)(l:List St):Prop:=S1 w d_ v l
def Ji(w:W_)(x:Ax)(s:O_):Prop:=∃c C v,s=[.int .i64 x.K,.bool x.op]++c++C++[v,d_ x.U,d_ x.a,d_ x.b]/\nV w x.L c/\nV w x.R C/\jQ w v x.H
def Ji.up{a:O_}(h:Ji w x a)(hb:G w w'):Ji w' x a:=by obtain⟨b,c,d,e,f,g,i⟩:=h;exact⟨b,c,d,e,f.up hb,g.up hb,S1.up i hb⟩
def AV(w:W_)(v:V_)(x:Ax):Prop:=∃c,v=.agg c.toArray/\Ji w x c
section
variable{H:Type}{enc:T_×V_->H}{P:Program}{w:W_}{base:Nat}{spare:Nat->Bool}{held:Bool}
end
section
variable{ps:List (O_×Ax)}
variable{w w':W_}
def Ji.form(h:Ji w x i):∃c f d g e,i=[.int .i64 x.K,.bool x.op,.int .i64 x.L.K,d_ x.L.N,.int .i64 x.L.lo,.int .i64 x.L.hi,.slice c (l_ x.L.J) f,.int .i64 x.R.K,d_ x.R.N,.int .i64 x.R.lo,.int .i64 x.R.hi,.slice d (l_ x.R.J) g,e,d_ x.U,d_ x.a,d_ x.b]/\ CV w (.agg #[x.L.K,d_ x.L.N,x.L.lo,x.L.hi,.slice c (l_ x.L.J) f]) x.L/\ CV w (.agg #[x.R.K,d_ x.R.N,x.R.lo,x.R.hi,.slice d (l_ x.R.J) g]) x.R/\jQ w e x.H:=by obtain⟨f,g,e,rfl,j,k,l⟩:=h;obtain⟨c,K,rfl⟩:=j.cells;obtain⟨d,m,rfl⟩:=k.cells;exact⟨c,K,d,m,e,rfl,⟨_,rfl,j⟩,⟨_,rfl,k⟩,l⟩
def SPA(w:W_)(v:V_)(ps:List (O_×Ax)):Prop:=Sl w w (λp:O_×Ax=>p.1) 16 v ps/\∀p∈ps,Ji w p.2 p.1
def lT(w:W_)(v:V_)(L:List Ax):Prop:=∃ps:List (O_×Ax),ps.map (·.2)=L/\SPA w v ps
def SPA.up(h:SPA w v ps)(hb:G w w'):SPA w' v ps:=⟨(Sl.below h.1 hb).more hb.size,λp a=>(h.2 p a).up hb⟩
def lT.up(h:lT w v L)(hb:G w w'):lT w' v L:=by obtain⟨ps,e,h⟩:=h;exact⟨ps,e,h.up hb⟩
def lT.nil(w:W_):lT w () []:=⟨[],rfl,Sl.nil _ _ _ _,λ_ h=>(by cases h)⟩
def lT.form(h:lT w v L):∃A c,v=.slice A (l_ L) c/\l_ L<=c/\c<=m_/\ (0<l_ L->∃b a,A=some ⟨b,a,none⟩/\b<w/\∀i x,L[i]?=some x->∃d,(∀(j:Nat) u,d[j]?=some u->N w b (a+i*16+j) u)/\Ji w x d):=by obtain⟨ps,rfl,⟨A,c,rfl,H,g,k⟩,l⟩:=h;refine⟨A,c,S,Q H,g,λm=>?_⟩;have⟨b,a,e,hb,o⟩:=k (Q m);refine⟨b,a,e,hb,λi x hi=>?_⟩;rw[J8]at hi;obtain⟨p,f,rfl⟩:=Sb.1 hi;exact⟨p.1,λj u n=>o i p f j u n,l p (gV f)⟩
end
section
variable{H:Type}{enc:T_×V_->H}{P:Program}{w:W_}{base:Nat}{spare:Nat->Bool}{held:Bool}
structure Fp(P:Program)(tA tC tS tL tB:T_)(fs:Array Field):Prop where
 sA:P.underlying tA=some (.struct fs)
 cA:P.cellsOf tA=16
 n:fs.size=8
 f:(fs.map λf:Field=>(f.offset,f.type))= #[(0,3),(1,tB),(2,tC),(7,tC),(12,tL),(13,tS),(14,tS),(15,tS)]
 k3:P.underlying 3=some (.int .i64)
 kB:P.underlying tB=some .bool
 kS:P.underlying tS=some .string
 kL:P.underlying tL=some (.slice tS)
 c3:P.cellsOf 3=1
 cB:P.cellsOf tB=1
 cC:P.cellsOf tC=5
 cS:P.cellsOf tS=1
 cL:P.cellsOf tL=1
end
abbrev bV(c:UInt8):V_:= .int .u8 (c.toNat:Int)
def afR(c:UInt8):(0:Int)<=c.toNat/\(c.toNat:Int)<=255:=⟨U,by have:=c.toNat_lt;omega⟩
def MB(c:UInt8):jA c=((decide ((97:Int)<=c.toNat)&&decide ((c.toNat:Int)<=122))||(decide ((65:Int)<=c.toNat)&&decide ((c.toNat:Int)<=90))):=by unfold jA;have a:(decide (97<=c):Bool)=decide ((97:Int)<=c.toNat):=iv_.2 (by rw[ja_];exact jb_.symm);have b:(decide (c<=122):Bool)=decide ((c.toNat:Int)<=122):=iv_.2 (by rw[ja_];exact jb_.symm);have d:(decide (65<=c):Bool)=decide ((65:Int)<=c.toNat):=iv_.2 (by rw[ja_];exact jb_.symm);have e:(decide (c<=90):Bool)=decide ((c.toNat:Int)<=90):=iv_.2 (by rw[ja_];exact jb_.symm);rw[a,b,d,e]
def lC{a b:Bool}(h:a=b):Ending.returned a=.returned b:=by rw[h]
def MC(c:UInt8)(w:W_):z 229 #[bV c] w λe w'=>e=.returned (jA c)/\w=w':=by
 rw[MB];unfold bV;generalize (c.toNat:Int)=z
 by_cases a:97<=z<;>by_cases b:z<=122<;>by_cases d:65<=z<;>by_cases f:z<=90<;>
 .simp only[a,b,d,f];go_in;go_wp2;go_ret;exact⟨rfl,rfl⟩
def wY(c:UInt8)(w:W_){b:Bool}(hb:jA c=b):z 229 #[bV c] w λe w'=>e=.returned b/\w=w':=by subst hb;exact MC c w
def Sg(s:St)(w:W_):∃c a,(convert 9 343 (.string ⟨s.toArray⟩)).run prog w=.ok (.slice w (l_ s) c) a/\G w a/\∀j x,s[j]?=some x->N a w j (bV x):=by have h:=run_bytes_of_string (P:=prog) w 9 343 5 ⟨s.toArray⟩ underlying9 underlying343 underlying5;refine⟨_,_,h,⟨rfl,rfl,rfl,S,λi hi=>OH w.drew _ i hi⟩,λj x b=>?_⟩;have d:j<l_ s:=(jv.1 b).1;have e:s[j]=x:=(jv.1 b).2;have hb:=bytesRow_at ⟨s.toArray⟩ (grownCap w (ByteArray.mk s.toArray).size 0 5) j (Q d);have f:=de_ w.drew (.cells (bytesRow ⟨s.toArray⟩ (grownCap w (ByteArray.mk s.toArray).size 0 5)) 5 ((bytesRow ⟨s.toArray⟩ (grownCap w (ByteArray.mk s.toArray).size 0 5)).size,(bytesRow ⟨s.toArray⟩ (grownCap w (ByteArray.mk s.toArray).size 0 5)).size+1));have g:(w.drew.alloc (.cells (bytesRow ⟨s.toArray⟩ (grownCap w (ByteArray.mk s.toArray).size 0 5)) 5 ((bytesRow ⟨s.toArray⟩ (grownCap w (ByteArray.mk s.toArray).size 0 5)).size,(bytesRow ⟨s.toArray⟩ (grownCap w (ByteArray.mk s.toArray).size 0 5)).size+1))).heap[w.heap.size]?=some _:=f;simp only[World.cell?,g,Option.bind_some];rw[hb];simp[e]
def wZ(c:UInt8):Bool:=jA c||c==95||(48<=c&&c<=57)
def Si(s:St):nP s=s.all wZ:=rfl
def Zj(c:UInt8):wZ c=(jA c||decide ((c.toNat:Int)=95)||(decide ((48:Int)<=c.toNat)&&decide ((c.toNat:Int)<=57))):=by unfold wZ;have a:(decide (48<=c):Bool)=decide ((48:Int)<=c.toNat):=iv_.2 (by rw[ja_];exact jb_.symm);have b:(decide (c<=57):Bool)=decide ((c.toNat:Int)<=57):=iv_.2 (by rw[ja_];exact jb_.symm);(have d:(c==95)=decide ((c.toNat:Int)=95):=by rw[Zd,YX,hj_];constructor;(.rintro rfl;rfl);.intro h;exact gm_.1 (by have:(95:UInt8).toNat=95:=rfl;omega));rw[a,b,d]
def pU{p:α->Bool}{x:α}(h:l[k]?=some x):(l.take (k+1)).all p=((l.take k).all p&&p x):=by rw[DL,h];simp
def FW{p:α->Bool}{x:α}(h:l[k]?=some x)(a:p x=false):l.all p=false:=by rw[List.all_eq_false];exact⟨x,gV h,by simp[a]⟩
def FX(s:St)(w:W_)(C:l_ s<=1000000):Y 230 #[d_ s] w (nP s):=by
 unfold d_;rw[Si];obtain⟨c,E,B,q,r⟩:=Sg s w;have l:=O q;have t:=O r;clear q r;go_in;go_wp2_with fail;clear B;go_loop [8] (λi=>∃k:Nat,k<=l_ s/\i=.int .i64 k/\Hid ((s.take k).all wZ=true)) (λi=>l_ s-(intOf i).toNat);exact⟨0,gZ _,rfl,O S⟩;obtain⟨k,F,rfl,g⟩:=hrel;by_cases y:k<l_ s
 .obtain⟨x,m⟩:=g_ y
  have u:=t.o k x m;have h:=O m;have q1:0<=(k:Int):=U;have q2:(k:Int)<l_ s:=U;clear m;unfold bV at u;have d:wZ x=(jA x||decide ((x.toNat:Int)=95)||(decide ((48:Int)<=x.toNat)&&decide ((x.toNat:Int)<=57))):=Zj x
  cases hl:jA x with
  |true=>
   (have b:Hid (∀w,z 229 #[.int .u8 (x.toNat:Int)] w λe w'=>e=.returned true/\w=w'):=O λw=>wY x w hl);have a:Hid (wZ x=true):=O (by rw[d,hl];rfl);clear hl d;generalize (x.toNat:Int)=z at *;go_wp2_with fail;(with_reducible refine(b.o _).mono ?_);rintro e j ⟨rfl,rfl⟩;go_wp2;go_round;exact⟨k+1,U,R,O (by rw[pU h.o,g.o,a.o];rfl)⟩;exact M
  |false=>
   (have b:Hid (∀w,z 229 #[.int .u8 (x.toNat:Int)] w λe w'=>e=.returned false/\w=w'):=O λw=>wY x w hl);have I:=afR x;rw[hl]at d;have n:=O d;clear hl d;generalize (x.toNat:Int)=z at *;by_cases f:z=95;.have a:Hid (wZ x=true):=O (by rw[n.o,f];rfl);(have q3:(z !=95)=false:=by simp[f]);clear f;go_wp2_with fail;(with_reducible refine(b.o _).mono ?_);rintro e j ⟨rfl,rfl⟩;go_wp2;go_round;exact⟨k+1,U,R,O (by rw[pU h.o,g.o,a.o];rfl)⟩;exact M
   .have q3:(z !=95)=true:=by simp[f]
    by_cases A:48<=z/\z<=57;.have a:Hid (wZ x=true):=O (by rw[n.o];simp[A]);(have o:decide (z<48)=false:=by simp;omega);(have v:decide (57<z)=false:=by simp;omega);go_wp2_with fail;(with_reducible refine(b.o _).mono ?_);rintro e j ⟨rfl,rfl⟩;go_wp2;go_round;exact⟨k+1,U,R,O (by rw[pU h.o,g.o,a.o];rfl)⟩;exact M
    .have a:Hid (wZ x=false):=O (by
      rw[n.o];simp only[ik_,Bool.or_eq_false_iff,Bool.and_eq_false_iff,hk_]
      exact⟨f,U⟩)
     have p:Hid (s.all wZ=false):=O (FW h.o a.o);by_cases H:z<48;(·(have o:decide (z<48)=true:=by simp;omega);go_wp2_with fail;(with_reducible refine(b.o _).mono ?_);rintro e j ⟨rfl,rfl⟩;go_wp2;go_ret;exact⟨lC p.o.symm,l.o⟩);·(have o:decide (z<48)=false:=by simp;omega);(have v:decide (57<z)=true:=by simp;omega);go_wp2_with fail;(with_reducible refine(b.o _).mono ?_);rintro e j ⟨rfl,rfl⟩;go_wp2;go_ret;exact⟨lC p.o.symm,l.o⟩
 ·(obtain rfl:k=l_ s:=by omega);go_wp2;go_ret;exact⟨by rw[show s.all wZ=true by have:=g.o;rwa[jy]at this];rfl,l.o⟩
structure Tc(c:Cn)(A:Option Addr)(m:Nat)
def Cs(c:Cn)(A:J_)(m:Nat):Tc c A m:=⟨⟩
structure Tq(c:Cn)(A:Option Addr)(m:Nat)
def Ct(c:Cn)(A:J_)(m:Nat):Tq c A m:=⟨⟩
structure Td(k:Int)(x:Ax)(p:Cn)(A:Option Addr)(m:Nat)(q:Cn)(B:Option Addr)(n:Nat)(C:Option Addr)(l:Nat)
def Ds(k:Int)(x:Ax)(p:Cn)(A:J_)(m:Nat)(q:Cn)(B:J_)(n:Nat)(C:J_)(l:Nat):Td k x p A m q B n C l:=⟨⟩
section
variable{k:Int}{x:Ax}{c p q:Cn}{A B C:J_}{m n l:Nat}
instance:CoeOut (Tc c A m) (Array V_):=⟨λ_=> #[.int .i64 c.K,d_ c.N,.int .i64 c.lo,.int .i64 c.hi,.slice A c.J.length m]⟩
instance:CoeOut (Tc c A m) (List V_):=⟨λ_=>[.int .i64 c.K,d_ c.N,.int .i64 c.lo,.int .i64 c.hi,.slice A c.J.length m]⟩
instance:CoeOut (Tq c A m) (Array V_):=⟨λ_=> #[c.K,c.N,c.lo,c.hi,.slice A c.J.length m]⟩
instance:CoeOut (Tq c A m) (List V_):=⟨λ_=>[.int .i64 c.K,.string ⟨c.N.toArray⟩,.int .i64 c.lo,.int .i64 c.hi,.slice A c.J.length m]⟩
instance:CoeOut (Td k x p A m q B n C l) (Array V_):=⟨λ_=> #[.int .i64 k,.bool x.op,.int .i64 p.K,d_ p.N,.int .i64 p.lo,.int .i64 p.hi,.slice A p.J.length m,.int .i64 q.K,d_ q.N,.int .i64 q.lo,.int .i64 q.hi,.slice B q.J.length n,.slice C x.H.length l,d_ x.U,d_ x.a,d_ x.b]⟩
instance:CoeOut (Td k x p A m q B n C l) (List V_):=⟨λ_=>[.int .i64 k,.bool x.op,.int .i64 p.K,d_ p.N,.int .i64 p.lo,.int .i64 p.hi,.slice A p.J.length m,.int .i64 q.K,d_ q.N,.int .i64 q.lo,.int .i64 q.hi,.slice B q.J.length n,.slice C x.H.length l,d_ x.U,d_ x.a,d_ x.b]⟩
end
def OM(s:St)(w:W_):z 231 #[d_ s] w λe w'=>e=.returned (kws.contains s)/\w=w':=by unfold d_;go_in;go_wp2_with fail;all_goals first|(exfalso;simp_all;done)|(go_ret;exact⟨lC (by simp_all [kws,List.contains_cons]),rfl⟩)
def FY(s:St)(w:W_)(m:l_ s<=1000000):Y 177 #[d_ s] w (kr s):=by
 cases s with
 |nil=>
  unfold d_;go_in;go_wp2;go_ret;exact⟨rfl,fu _ _⟩
 |cons c r=>
  (have j:∀w b,jA c=b->z 229 #[.int .u8 (c.toNat:Int)] w λe w'=>e=.returned (.bool b)/\w=w':=λw b h=>wY c w h);(have a:Hid (∀w b,nP (c::r)=b->Y 230 #[d_ (c::r)] w (.bool b)):=O λw b h=>by subst h;exact FX (c::r) w m);(have d:Hid (∀w b,kws.contains (c::r)=b->z 231 #[d_ (c::r)] w λe w'=>e=.returned (.bool b)/\w=w'):=O λw b h=>by subst h;exact OM (c::r) w);have k:kr (c::r)=(jA c&&nP (c::r)&& !kws.contains (c::r)):=rfl;unfold d_ at a d ⊢;generalize kr (c::r)=x at *;have u:∀h,(ByteArray.mk (c::r).toArray)[0]'h=c:=λ_=>rfl
  cases hl:jA c<;>cases f:nP (c::r)<;>cases g:kws.contains (c::r)<;>
  .have i:=k;rw[hl,f,g]at i;have l:=O i;have o:=(λw=>j w _ hl);have p:=(λw=>a.o w _ f);have q:=(λw=>d.o w _ g);clear i hl f g j a d k;go_in;go_wp2_with (first|(go_at_call 229;with_reducible refine(o _).mono ?_;rintro e n ⟨rfl,rfl⟩)|(go_at_call 230;with_reducible refine(p _).mono ?_;rintro e n ⟨rfl,t⟩)|(go_at_call 231;with_reducible refine(q _).mono ?_;rintro e v ⟨rfl,rfl⟩));go_ret;first|exact⟨lC l.o.symm,t⟩|exact⟨lC l.o.symm,fu _ _⟩
def w9(s:St)(w:W_)(n:l_ s<=4611686018427387904):Y 178 #[d_ s] w (iP s):=by
 match s with
 |[]=>
  unfold d_;go_in;go_wp2;go_ret;exact⟨rfl,fu _ _⟩
 |[c]=>
  unfold d_;go_in;go_wp2;go_ret;exact⟨rfl,fu _ _⟩
 |c::d::r=>
  have a:Hid (iP (c::d::r)=(c==95&&nP (c::d::r)&&decide (l_ (c::d::r)<=24))):=O rfl;(have l:(c==95)=decide ((c.toNat:Int)=95):=by rw[Zd,YX,hj_];constructor;(.rintro rfl;rfl);.intro h;exact gm_.1 (by have:(95:UInt8).toNat=95:=rfl;omega));rw[l]at a;(have u:∀h,(ByteArray.mk (c::d::r).toArray)[0]'h=c:=λ_=>rfl);have x:(ByteArray.mk (c::d::r).toArray).size=l_ r+2:=rfl;have m:l_ (c::d::r)=l_ r+2:=rfl;rw[m]at a n;unfold d_;generalize iP (c::d::r)=p at *;clear l m;(have G:decide ((2:Int)<=((l_ r+2:Nat):Int))=true:=by simp;omega);by_cases hl:l_ r+2<=24
  .have o:decide (((l_ r+2:Nat):Int)<=24)=true:=by simp;omega
   have j:∀w b,nP (c::d::r)=b->Y 230 #[.string ⟨(c::d::r).toArray⟩] w (.bool b):=λw b h=>by subst h;exact FX (c::d::r) w (by simp;omega)
   cases i:nP (c::d::r)<;>by_cases k:(c.toNat:Int)=95<;>
   .have f:=a.o;rw[i]at f;simp only[hl,k,dr_,dt_,hr_,gb_,ib_,ic_]at f;have g:=O f;have q:=(λw=>j w _ i);have q1:((c.toNat:Int)==95)=decide ((c.toNat:Int)=95):=rfl;simp only[k,dr_,dt_]at q1;clear f i j a;go_in;go_wp2_with (first|(go_at_call 230;with_reducible refine(q _).mono ?_;rintro e v ⟨rfl,t⟩));go_ret;first|exact⟨lC g.o.symm,t⟩|exact⟨lC g.o.symm,fu _ _⟩
  ·(have o:decide (((l_ r+2:Nat):Int)<=24)=false:=by simp;omega);have g:Hid (p=false):=O (by rw[a.o];simp;omega);clear a;go_in;go_wp2;go_ret;exact⟨lC g.o.symm,fu _ _⟩



