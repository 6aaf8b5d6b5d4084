import Derived.Shelf.SlIter.Nil
import Derived.Shelf.SlSortCmp.NoneTotal
import Derived.Shelf.Slices.Cells
import Derived.Shelf.Slices.Clone
import Derived.Shelf.Slices.Empties
import Derived.Shelf.Slices.In.SortNone
import Derived.Shelf.Slices.Turned
import Derived.Shelf.SlicesE.Clone
import Derived.Shelf.Small.Strs
import Derived.Shelf.Small.Wraps
import Derived.Shelf.Sort.Plain
import Derived.Shelf.SortM.Plain
import Derived.Shelf.SortM.SortNone
import Derived.Shelf.Spec.SearchS
import Derived.Shelf.Strconv.Itoa3
import Derived.Shelf.Strings.BuilderK
import Derived.Shelf.Strings.Explode
import Derived.Shelf.Strings.OnBuilder
import Derived.Shelf.Strings.Shaped
import Derived.Shelf.Strings.SplitShaped
import Derived.Shelf.Unicode.DecodeAny
import Derived.Test.YtgoapenfbanhaaaGreatDoorJ00
set_option linter.all false
set_option maxRecDepth 100000
set_option maxHeartbeats 32000000
open List renaming length->l_
open Go.Shelf Go.Proofs.Tryz Go.RowKit Go.Maps Go.Sort
open Go renaming World->W_
namespace Go.Proofs
def Tryz.WG:Go.Shelf.Ren:=⟨λ|6=>120|15=>98|14=>182|28=>162|29=>163|20=>232|21=>233|22=>234|23=>235|24=>236|25=>237|26=>238|27=>239|46=>283|47=>221|48=>222|49=>284|50=>285|57=>308|n=>n,λ|22=>128|24=>130|25=>192|3=>3|39=>157|0=>0|53=>246|55=>248|4=>4|46=>240|45=>239|50=>103|5=>5|9=>9|66=>286|70=>186|76=>335|77=>336|n=>n,λ|n=>n⟩
theorem ab_{P:Program}{k:FuncId}{B:Func}(a:(((P.funcs[k]?).map (·.name)).getD "" == "runtime.NumGoroutine")=false)(b:P.funcs[k]?=some {B with name:=((P.funcs[k]?).map (·.name)).getD ""}):Bears P k B:=⟨_,a,b⟩
def Tryz.ady:Go.Proofs.SlLaysF0.n6 prog Tryz.WG:=by constructor<;>first|kernel_rfl|intro;kernel_rfl|apply ab_<;>kernel_rfl
def Tryz.Sj:Go.Shelf.Ren:=⟨λ|6=>147|15=>98|14=>219|28=>162|29=>163|20=>265|21=>266|22=>267|23=>268|24=>269|25=>270|26=>271|27=>272|46=>298|47=>221|48=>222|49=>299|50=>300|57=>322|n=>n,λ|22=>90|24=>152|25=>234|3=>3|39=>157|0=>0|53=>246|55=>248|4=>4|46=>240|45=>239|50=>103|5=>5|9=>9|66=>286|70=>186|76=>335|77=>336|n=>n,λ|n=>n⟩
def Tryz.Zk:Go.Proofs.SlLaysF0.n6 prog Tryz.Sj:=by constructor<;>first|kernel_rfl|intro;kernel_rfl|apply ab_<;>kernel_rfl
def Tryz.Jj:Go.Shelf.Ren:=⟨λ|219=>282|217=>304|225=>305|224=>306|267=>307|266=>324|314=>325|n=>n,λ|9=>9|3=>3|4=>4|5=>5|46=>157|146=>387|51=>246|n=>n,λ|1=>1|n=>n⟩
def Tryz.WH:Go.Proofs.Lays.n219 prog Tryz.Jj:=by constructor<;>first|kernel_rfl|intro;kernel_rfl|apply ab_<;>kernel_rfl|constructor<;>first|kernel_rfl|intro;kernel_rfl
def Tryz.AA:Go.Shelf.Ren:=⟨λ|26=>109|33=>174|34=>175|38=>168|n=>n,λ|24=>28|9=>9|3=>3|4=>4|40=>157|0=>0|n=>n,λ|n=>n⟩
def Tryz.zi:Go.Proofs.Lays2.n26 prog Tryz.AA:=by constructor<;>first|kernel_rfl|intro;kernel_rfl|apply ab_<;>kernel_rfl|constructor<;>first|kernel_rfl|intro;kernel_rfl
def Tryz.Co:Go.Shelf.Ren:=⟨λ|221=>317|268=>345|138=>346|143=>347|195=>353|197=>354|218=>355|219=>282|260=>360|217=>304|225=>305|224=>306|267=>307|266=>324|314=>325|n=>n,λ|9=>9|3=>3|31=>28|4=>4|0=>0|105=>400|21=>21|5=>5|46=>157|119=>409|139=>412|138=>411|146=>387|51=>246|n=>n,λ|1=>1|3=>5|4=>6|n=>n⟩
def Tryz.ME:Go.Proofs.Lays.n221 prog Tryz.Co:=by constructor<;>first|kernel_rfl|intro;kernel_rfl|apply ab_<;>kernel_rfl|constructor<;>first|kernel_rfl|intro;kernel_rfl
def Tryz.DT:Go.Shelf.Ren:=⟨λ|7=>107|10=>172|n=>n,λ|23=>122|26=>9|3=>169|28=>167|0=>0|27=>166|33=>183|4=>4|n=>n,λ|n=>n⟩
def keys107:Go.Proofs.SlLaysZ.n7 prog Tryz.DT:=by constructor<;>first|kernel_rfl|intro;kernel_rfl|apply ab_<;>kernel_rfl|constructor<;>first|kernel_rfl|intro;kernel_rfl
def Tryz.zk:Go.Shelf.Ren:=⟨λ|6=>106|8=>170|9=>171|11=>226|13=>98|12=>227|23=>162|24=>163|14=>274|15=>275|16=>276|17=>277|18=>278|19=>279|20=>174|21=>280|22=>281|25=>301|26=>221|27=>222|28=>302|29=>303|30=>168|31=>323|n=>n,λ|26=>9|28=>167|24=>28|0=>0|3=>3|37=>157|48=>246|50=>248|4=>4|40=>240|39=>239|45=>103|5=>5|9=>9|51=>286|55=>186|57=>335|58=>336|33=>183|n=>n,λ|n=>n⟩
def Tryz.Kr:Go.Proofs.SlLaysZ.n6 prog Tryz.zk:=by constructor<;>first|kernel_rfl|intro;kernel_rfl|apply ab_<;>kernel_rfl|constructor<;>first|kernel_rfl|intro;kernel_rfl
def Tryz.OP:Go.Shelf.Ren:=⟨λ|6=>171|8=>98|9=>227|19=>162|20=>163|21=>274|22=>275|23=>276|24=>277|25=>278|26=>279|27=>174|28=>280|29=>281|36=>301|31=>221|32=>222|37=>302|38=>303|39=>168|41=>323|n=>n,λ|27=>28|29=>9|3=>3|32=>157|26=>28|0=>0|44=>246|46=>248|4=>4|36=>240|35=>239|41=>103|5=>5|9=>9|53=>286|57=>186|63=>335|64=>336|n=>n,λ|n=>n⟩
def Tryz.Vs:Go.Proofs.SlLaysM.n6 prog Tryz.OP:=by constructor<;>first|kernel_rfl|intro;kernel_rfl|apply ab_<;>kernel_rfl|constructor<;>first|kernel_rfl|intro;kernel_rfl
def Tryz.DU:Go.Shelf.Ren:=⟨λ|7=>108|10=>173|n=>n,λ|23=>169|26=>9|3=>4|28=>167|0=>0|27=>166|33=>183|4=>4|n=>n,λ|n=>n⟩
def keys108:Go.Proofs.SlLaysZ.n7 prog Tryz.DU:=by constructor<;>first|kernel_rfl|intro;kernel_rfl|apply ab_<;>kernel_rfl|constructor<;>first|kernel_rfl|intro;kernel_rfl
def Tryz.DV:Go.Shelf.Ren:=⟨λ|156=>287|165=>311|166=>312|169=>313|240=>342|241=>343|276=>350|277=>351|n=>n,λ|31=>28|9=>9|3=>3|4=>4|0=>0|20=>20|72=>370|76=>373|70=>368|37=>343|75=>372|127=>392|164=>395|5=>5|80=>375|n=>n,λ|n=>n⟩
def Tryz.Vt:Go.Proofs.Lays.n156 prog Tryz.DV:=by constructor<;>first|kernel_rfl|intro;kernel_rfl
def Tryz.sH:Builder.Extra prog Tryz.DV:=by constructor<;>first|kernel_rfl|intro;kernel_rfl|decide|constructor<;>first|kernel_rfl|intro;kernel_rfl
open Go.RowKit in
def Tryz.strings_Join_none(a:J_)(c:Nat)(b:ByteArray)(w:W_):Calls prog 287 #[.slice a 0 c,.string b] w λe w'=>e=.returned (x_)/\w'=w:=Any.strings_Join_none Tryz.Vt Tryz.sH a c b w
open Go.RowKit in
def Tryz.strings_Join(bk o c:Nat)(xs:List ByteArray)(a:ByteArray)(w:W_)(h:∀(j:Nat) x,xs[j]?=some x->w.cell? ⟨bk,o+j,none⟩=some (.string x))(d:bk<w.heap.size)(b:l_ xs<=140737488355328)(f:l_ xs<=c)(g:l_ (Lib.join (xs.map (·.data.toList)) a.data.toList)<=140737488355328):Calls prog 287 #[.slice (some ⟨bk,o,none⟩) (l_ xs) c,.string a] w λe w'=>e=.returned (.string ⟨(Lib.join (xs.map (·.data.toList)) a.data.toList).toArray⟩)/\Below w.heap.size w w':=Any.strings_Join Tryz.Vt Tryz.sH bk o c xs a w h d b f g
def Tryz.OQ:Go.Shelf.Ren:=⟨λ|106=>65|213=>105|265=>169|n=>n,λ|9=>9|3=>3|n=>n,λ|n=>n⟩
def Tryz.ab7:Go.Proofs.Lays.n106 prog Tryz.OQ:=by constructor<;>first|kernel_rfl|intro;kernel_rfl
open Go.RowKit in
def Tryz.strings_Compare(a b:ByteArray)(w:W_):Calls prog 65 #[.string a,.string b] w λe w'=>e=.returned (.int .i64 (Lib.compareBytes a.data.toList b.data.toList))/\w'=w:=Any.strings_Compare Tryz.ab7 a b w
def Tryz.OT:Go.Shelf.Ren:=⟨λ|190=>171|125=>98|258=>227|128=>162|129=>163|302=>274|303=>275|304=>276|305=>277|306=>278|307=>279|308=>174|309=>280|310=>281|333=>301|329=>221|330=>222|334=>302|335=>303|336=>168|344=>323|n=>n,λ|31=>28|9=>9|3=>3|46=>157|0=>0|51=>246|53=>248|4=>4|183=>240|182=>239|131=>103|5=>5|218=>286|222=>186|228=>335|229=>336|n=>n,λ|n=>n⟩
def Tryz.Vu:Go.Proofs.Lays.n190 prog Tryz.OT:=by constructor<;>first|kernel_rfl|intro;kernel_rfl
open Go.Sort Go.RowKit in
def Tryz.slices_Sort_string(blk a cap:Nat)(ss:List (List UInt8))(w:W_)(b:Holds encStr w blk a ss.toArray)(d:blk<w)(c:l_ ss<4611686018427387904):Calls prog 171 #[.slice (a_ blk a) (l_ ss) cap] w λe w'=>e=.returned (.tuple #[])/\∃n os,w'=grow (putRow encStr (Sort.ahead w n) blk a (ss.mergeSort λx y=>decide (x<=y)).toArray) os:=Any.slices_Sort_string Tryz.Vu blk a cap ss w b d c
def Tryz.Sk:Go.Shelf.Ren:=⟨λ|99=>90|206=>151|n=>n,λ|9=>9|4=>4|3=>3|n=>n,λ|n=>n⟩
def Tryz.ad3:Go.Proofs.Lays.n99 prog Tryz.Sk:=by constructor<;>first|kernel_rfl|intro;kernel_rfl
open Go.RowKit Go.Lib in
def Tryz.strings_HasPrefix(s p:ByteArray)(w:W_):Calls prog 90 #[.string s,.string p] w λe w'=>e=.returned (.bool (Lib.hasPrefix s.data.toList p.data.toList))/\w'=w:=Any.strings_HasPrefix Tryz.ad3 s p w
open Go.RowKit Go.Lib in
def Tryz.OU:Go.Shelf.Ren:=⟨λ|110=>127|109=>193|n=>n,λ|31=>28|9=>9|4=>4|3=>3|0=>0|n=>n,λ|n=>n⟩
def Tryz.Vv:Go.Proofs.Lays.n110 prog Tryz.OU:=by constructor<;>first|kernel_rfl|intro;kernel_rfl
open Go.Lib in
def Tryz.slices_Contains_string(b a n c:Nat)(zs:List ByteArray)(x:ByteArray)(w:W_)(d:n<=l_ zs)(f:n<=9223372036854775807)(hc:∀j,j<l_ zs->w.cell? (a_ b (a+j))=some (.string (zs.getD j ByteArray.empty))):Calls prog 127 #[.slice (a_ b a) n c,.string x] w λe w'=>e=.returned (.bool (Lib.containsS (zs.take n) x))/\w'=w:=Any.slices_Contains_string Tryz.Vv b a n c zs x w d f hc
open Go.Lib in
def Tryz.slices_Contains_string_empty(a:J_)(c:Nat)(x:ByteArray)(w:W_):Calls prog 127 #[.slice a 0 c,.string x] w λe w'=>e=.returned (.bool false)/\w'=w:=Any.slices_Contains_string_empty Tryz.Vv a c x w
def Tryz.OV:Go.Shelf.Ren:=⟨λ|112=>112|n=>n,λ|28=>31|3=>3|4=>4|0=>0|n=>n,λ|n=>n⟩
def Tryz.Vw:Go.Proofs.Lays.n112 prog Tryz.OV:=by constructor<;>first|kernel_rfl|intro;kernel_rfl
open Go.RowKit Go.Lib Go.Sort in
def Tryz.slices_Reverse_int(blk a cap:Nat)(zs:I_)(w:W_)(b:Holds (Value.int .i64) w blk a zs.toArray)(c:l_ zs<=9223372036854775807):Calls prog 112 #[.slice (a_ blk a) (l_ zs) cap] w λe w'=>e=.returned (.tuple #[])/\∃n,w'=putRow (Value.int .i64) (Sort.ahead w n) blk a zs.reverse.toArray:=Any.slices_Reverse_int Tryz.Vw blk a cap zs w b c
open Go.RowKit Go.Lib Go.Sort in
def Tryz.slices_Reverse_int_empty(a:J_)(cap:Nat)(w:W_):Calls prog 112 #[.slice a 0 cap] w λe w'=>e=.returned (.tuple #[])/\w'=w:=Any.slices_Reverse_int_empty Tryz.Vw a cap w
def Tryz.Jk:Go.Shelf.Ren:=⟨λ|16=>203|n=>n,λ|24=>28|9=>9|4=>4|n=>n,λ|n=>n⟩
def Tryz.yF:Go.Proofs.Lays2.n16 prog Tryz.Jk:=by constructor<;>first|kernel_rfl|intro;kernel_rfl
open Go.RowKit Go.Lib in
def Tryz.slices_Clone_string(b a n c:Nat)(zs:List ByteArray)(w:W_)(d:n<=l_ zs)(f:n*16<=140737488355328)(hc:∀j,j<l_ zs->w.cell? (a_ b (a+j))=some (.string (zs.getD j ByteArray.empty))):Calls prog 203 #[.slice (a_ b a) n c] w λe w'=>∃v',e=.returned v'/\w'.ownsRow w 9 1 v' n ((zs.take n).map (Value.string))/\v'≠.slice none 0 0/\Below w w w':=Any.slices_Clone_string Tryz.yF b a n c zs w d f hc
open Go.RowKit Go.Lib in
def Tryz.slices_Clone_string_nil(n c:Nat)(w:W_):Calls prog 203 #[.slice none n c] w λe w'=>e=.returned (.slice none 0 0)/\w'=w:=Any.slices_Clone_string_nil Tryz.yF n c w
open Go.RowKit Go.Lib in
def Tryz.OW:Go.Shelf.Ren:=⟨λ|194=>205|n=>n,λ|31=>28|9=>9|3=>3|4=>4|0=>0|n=>n,λ|n=>n⟩
def Tryz.ab8:Go.Proofs.Lays.n194 prog Tryz.OW:=by constructor<;>first|kernel_rfl|intro;kernel_rfl
open Go.RowKit Go.Lib Go.Sort in
open Go.RowKit Go.Lib Go.Sort in
def Tryz.slices_Compact_string(blk a cap:Nat)(zs:List (List UInt8))(w:W_)(b:Holds encStr w blk a zs.toArray)(c:l_ zs<=9223372036854775807)(d:l_ zs<=cap):Calls prog 205 #[.slice (a_ blk a) (l_ zs) cap] w λe w'=>e=.returned (.slice (a_ blk a) (l_ (Lib.compact zs)) cap)/\∃q,w'=putRow encStr (Sort.ahead w q) blk a (Lib.compact zs++List.replicate (l_ zs-l_ (Lib.compact zs)) []).toArray:=Any.slices_Compact_string Tryz.ab8 blk a cap zs w b c d
open Go.RowKit Go.Sort in
def Tryz.slices_Sort_string_none(p:J_)(cap:Nat)(w:W_):Calls prog 171 #[.slice p 0 cap] w λe w'=>e=.returned (.tuple #[])/\w'=w:=Any.slices_Sort_string_none Tryz.Vu p cap w
def Tryz.OX(m:Nat):AnyZ.SortsIn prog Tryz.zk Fence.wide m:=⟨λB b cap s W a d c=>yY.2 (AnyM.slices_Sort_string Tryz.Vs B b cap s W a d c),λp cap W=>yY.2 (AnyM.slices_Sort_string_none Tryz.Vs p cap W)⟩
def Tryz.Jl(a:Option Nat)(W:W_):CallsIn Fence.wide 5 prog 107 #[.map a] W λe w'=>e=.returned (.func (.func 172) #[] #[.pointer (a_ W 0)])/\w'=W.alloc (.cells #[.map a] 122):=AnyZ.keys_in keys107 Fence.wide 5 trivial rfl a W
def Tryz.qZ{H:Type}(b c:Nat)(a:DataW H)(R:Value->Option (DataW H×List MemPlace))(w:W_)(d:w.ownsMap prog 9 R b c a)(k:Maps.size a<=maxLen)(n:Maps.size a*16<=140737488355328):CallsIn Fence.wide 5 prog 106 #[.func (.func 172) #[] #[.pointer (a_ w 0)]] (w.alloc (.cells #[.map (some b)] 122)) λe w'=>∃(v:Value)(s:List (List UInt8)),e=.returned v/\s.Perm (strKeys a)/\ w'.ownsRow (w.alloc (.cells #[.map (some b)] 122)).heap.size 9 1 v (l_ s) ((s.mergeSort (λx y=>decide (x<=y))).map encStr)/\(v=.slice none 0 0↔s=[])/\Below (w.alloc (.cells #[.map (some b)] 122)).heap.size (w.alloc (.cells #[.map (some b)] 122)) w':=by
 have j:=d.lt
 have l:SeqGives Fence.wide 2 prog 172 #[.pointer (a_ w 0)] encStr (λs=>s.Perm (strKeys a)) (Maps.size a) (w.alloc (.cells #[.map (some b)] 122)):=AnyZ.keys_gives (ρ:=Tryz.DT) {keys107 with} Fence.wide _ trivial rfl (by omega) w b c a _ (by simp) (by simp) (by
   obtain⟨f,m,hb,g,h,i⟩:=d
   exact⟨f,m,(OH _ _ b j).trans hb,g,h,i⟩)
 exact AnyZ.sorted_in Tryz.Kr Fence.wide 5 trivial trivial trivial trivial rfl (by omega) (Tryz.OX _) (enters_of func171 k_ rfl) 172 #[.pointer (a_ w 0)] trivial (enters_of func172 k_ rfl) _ _ k n _ l
def Tryz.Jm(a:Option Nat)(W:W_):CallsIn Fence.wide 5 prog 108 #[.map a] W λe w'=>e=.returned (.func (.func 173) #[] #[.pointer (a_ W 0)])/\w'=W.alloc (.cells #[.map a] 169):=AnyZ.keys_in keys108 Fence.wide 5 trivial rfl a W
def Tryz.q8{H:Type}(b c:Nat)(a:DataW H)(R:Value->Option (DataW H×List MemPlace))(w:W_)(d:w.ownsMap prog 9 R b c a)(k:Maps.size a<=maxLen)(n:Maps.size a*16<=140737488355328):CallsIn Fence.wide 5 prog 106 #[.func (.func 173) #[] #[.pointer (a_ w 0)]] (w.alloc (.cells #[.map (some b)] 169)) λe w'=>∃(v:Value)(s:List (List UInt8)),e=.returned v/\s.Perm (strKeys a)/\ w'.ownsRow (w.alloc (.cells #[.map (some b)] 169)).heap.size 9 1 v (l_ s) ((s.mergeSort (λx y=>decide (x<=y))).map encStr)/\(v=.slice none 0 0↔s=[])/\Below (w.alloc (.cells #[.map (some b)] 169)).heap.size (w.alloc (.cells #[.map (some b)] 169)) w':=by
 have j:=d.lt
 have l:SeqGives Fence.wide 2 prog 173 #[.pointer (a_ w 0)] encStr (λs=>s.Perm (strKeys a)) (Maps.size a) (w.alloc (.cells #[.map (some b)] 169)):=AnyZ.keys_gives (ρ:=Tryz.DU) {keys108 with} Fence.wide _ trivial rfl (by omega) w b c a _ (by simp) (by simp) (by
   obtain⟨f,m,hb,g,h,i⟩:=d
   exact⟨f,m,(OH _ _ b j).trans hb,g,h,i⟩)
 exact AnyZ.sorted_in Tryz.Kr Fence.wide 5 trivial trivial trivial trivial rfl (by omega) (Tryz.OX _) (enters_of func171 k_ rfl) 173 #[.pointer (a_ w 0)] trivial (enters_of func173 k_ rfl) _ _ k n _ l


