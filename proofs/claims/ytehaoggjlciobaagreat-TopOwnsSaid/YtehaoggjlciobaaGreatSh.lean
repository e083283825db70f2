/- The shelf's contracts at this program. -/
import Derived.Shelf.Strings.Builder1
import Derived.Shelf.Strings.Builder2
import Derived.Shelf.Strings.OnBuilder
import Derived.Shelf.Small.Bits
import Derived.Shelf.Small.Wraps
import Derived.Shelf.Strings.BuilderF
import Derived.Shelf.Strings.BuilderK
import Derived.Shelf.Strings.Builder2Cap
import Derived.Shelf.Strconv.Itoa0
import Derived.Ground.Names2Prog
import Derived.Shelf.Slices.Clone
import Derived.Shelf.Slices.CompactS
import Derived.Ground.SlgnProg
import Derived.Shelf.SlicesE.Compact
import Derived.Shelf.SlicesE.Clone
import Derived.Ground.SlgfProg
import Derived.Shelf.SlicesE.IndexFunc
import Derived.Shelf.SlicesE.DeleteFunc
import Derived.Test.YtehaoggjlciobaaGreatProg
import Derived.Shelf.SlGeneric
import Derived.Shelf.SlIter.Nil
import Derived.Shelf.SortM.Plain
import Derived.Shelf.SortM.SortNone
import Derived.Ground.GgzProg
import Derived.Ground.SlgmProg
set_option linter.all false
set_option maxRecDepth 20000
set_option maxHeartbeats 16000000
namespace Go.Proofs
section
open Go.Shelf
def Tryz.lays169_ren:Go.Shelf.Ren:=⟨fun|169=>262|n=>n,fun|70=>313|9=>9|0=>0|72=>315|37=>105|127=>337|3=>3|5=>5|n=>n,fun|n=>n⟩
theorem Tryz.lays169:Go.Proofs.Lays.n169 Tryz.prog Tryz.lays169_ren:={
 mixed:=by kernel_rfl
 f169:=Tryz.func262.trans (congrArg some (by kernel_rfl))
 t0:=Tryz.underlying0
 a0:=Tryz.isAgg0
 z0:=Tryz.sizeOf0
 v0:=Tryz.zeroValue0
 t3:=Tryz.underlying3
 a3:=Tryz.isAgg3
 z3:=Tryz.sizeOf3
 v3:=Tryz.zeroValue3
 t9:=Tryz.underlying9
 a9:=Tryz.isAgg9
 z9:=Tryz.sizeOf9
 v9:=Tryz.zeroValue9
 t37:=Tryz.underlying105
 a37:=Tryz.isAgg105
 z37:=Tryz.sizeOf105
 v37:=Tryz.zeroValue105
 t70:=Tryz.underlying313
 a70:=Tryz.isAgg313
 z70:=Tryz.sizeOf313
 v70:=Tryz.zeroValue313
 t72:=Tryz.underlying315
 a72:=Tryz.isAgg315
 z72:=Tryz.sizeOf315
 v72:=Tryz.zeroValue315
 t127:=Tryz.underlying337
 a127:=Tryz.isAgg337
 z127:=Tryz.sizeOf337
 v127:=Tryz.zeroValue337}
theorem Tryz.Builder_Extra_169:Builder.Extra Tryz.prog Tryz.lays169_ren:={
 sizeBuilder:=by kernel_rfl
 liesBuilder:=by kernel_rfl
 t5:=Tryz.underlying5
 a5:=Tryz.isAgg5
 z5:=Tryz.sizeOf5
 v5:=Tryz.zeroValue5
 infoByte:=by kernel_rfl
 cellsByte:=by kernel_rfl
 sizeByte:=by kernel_rfl
 neB5:=by decide}
open Go.RowKit in theorem Tryz.Builder_String_any (B b:Nat) (l:List UInt8) (w:World) (h:Lib.IsBuilder 315 5 B b (Lib.byteCells l) w) (hBw:B≤w.heap.size):
  Calls Tryz.prog 262 #[.pointer (some ⟨b,0,none⟩)] w fun e w'=>e= .returned (.string ⟨l.toArray⟩)∧Below B w w':=Any.Builder_String_any Tryz.lays169 Tryz.Builder_Extra_169 B b l w h hBw
def Tryz.lays156_ren:Go.Shelf.Ren:=⟨fun|156=>210|165=>260|166=>261|169=>262|240=>283|241=>284|276=>310|277=>311|n=>n,fun|31=>34|9=>9|3=>3|4=>4|0=>0|20=>20|72=>315|76=>318|70=>313|37=>105|75=>317|127=>337|164=>358|5=>5|80=>320|n=>n,fun|n=>n⟩
theorem Tryz.lays156:Go.Proofs.Lays.n156 Tryz.prog Tryz.lays156_ren:={
 mixed:=by kernel_rfl
 f156:=Tryz.func210.trans (congrArg some (by kernel_rfl))
 f165:=Tryz.func260.trans (congrArg some (by kernel_rfl))
 f166:=Tryz.func261.trans (congrArg some (by kernel_rfl))
 f169:=Tryz.func262.trans (congrArg some (by kernel_rfl))
 f240:=Tryz.func283.trans (congrArg some (by kernel_rfl))
 f241:=Tryz.func284.trans (congrArg some (by kernel_rfl))
 f276:=Tryz.func310.trans (congrArg some (by kernel_rfl))
 f277:=Tryz.func311.trans (congrArg some (by kernel_rfl))
 t0:=Tryz.underlying0
 a0:=Tryz.isAgg0
 z0:=Tryz.sizeOf0
 v0:=Tryz.zeroValue0
 t3:=Tryz.underlying3
 a3:=Tryz.isAgg3
 z3:=Tryz.sizeOf3
 v3:=Tryz.zeroValue3
 t4:=Tryz.underlying4
 a4:=Tryz.isAgg4
 z4:=Tryz.sizeOf4
 v4:=Tryz.zeroValue4
 t9:=Tryz.underlying9
 a9:=Tryz.isAgg9
 z9:=Tryz.sizeOf9
 v9:=Tryz.zeroValue9
 t20:=Tryz.underlying20
 a20:=Tryz.isAgg20
 z20:=Tryz.sizeOf20
 v20:=Tryz.zeroValue20
 t31:=Tryz.underlying34
 a31:=Tryz.isAgg34
 z31:=Tryz.sizeOf34
 v31:=Tryz.zeroValue34
 t37:=Tryz.underlying105
 a37:=Tryz.isAgg105
 z37:=Tryz.sizeOf105
 v37:=Tryz.zeroValue105
 t70:=Tryz.underlying313
 a70:=Tryz.isAgg313
 z70:=Tryz.sizeOf313
 v70:=Tryz.zeroValue313
 t72:=Tryz.underlying315
 a72:=Tryz.isAgg315
 z72:=Tryz.sizeOf315
 v72:=Tryz.zeroValue315
 t75:=Tryz.underlying317
 a75:=Tryz.isAgg317
 z75:=Tryz.sizeOf317
 v75:=Tryz.zeroValue317
 t76:=Tryz.underlying318
 a76:=Tryz.isAgg318
 z76:=Tryz.sizeOf318
 v76:=Tryz.zeroValue318
 t127:=Tryz.underlying337
 a127:=Tryz.isAgg337
 z127:=Tryz.sizeOf337
 v127:=Tryz.zeroValue337
 t164:=Tryz.underlying358
 a164:=Tryz.isAgg358
 z164:=Tryz.sizeOf358
 v164:=Tryz.zeroValue358}
theorem Tryz.Builder_Extra_156:Builder.Extra Tryz.prog Tryz.lays156_ren:={
 sizeBuilder:=by kernel_rfl
 liesBuilder:=by kernel_rfl
 t5:=Tryz.underlying5
 a5:=Tryz.isAgg5
 z5:=Tryz.sizeOf5
 v5:=Tryz.zeroValue5
 infoByte:=by kernel_rfl
 cellsByte:=by kernel_rfl
 sizeByte:=by kernel_rfl
 neB5:=by decide}
open Go.RowKit in theorem Tryz.strings_Join (bk o c:Nat) (xs:List ByteArray) (sep:ByteArray) (w:World) (hcells:∀ (j:Nat) x,xs[j]? =some x→w.cell? ⟨bk,o+j,none⟩=some (.string x)) (hbk:bk<w.heap.size) (hN:xs.length≤140737488355328) (hcap:xs.length≤c) (hlen:(Lib.join (xs.map (·.data.toList)) sep.data.toList).length≤140737488355328):
  Calls Tryz.prog 210 #[.slice (some ⟨bk,o,none⟩) xs.length c,.string sep] w fun e w'=>e= .returned (.string ⟨(Lib.join (xs.map (·.data.toList)) sep.data.toList).toArray⟩)∧Below w.heap.size w w':=Any.strings_Join Tryz.lays156 Tryz.Builder_Extra_156 bk o c xs sep w hcells hbk hN hcap hlen
def Tryz.lays194_ren:Go.Shelf.Ren:=⟨fun|194=>158|n=>n,fun|31=>34|9=>9|3=>3|4=>4|0=>0|n=>n,fun|n=>n⟩
theorem Tryz.lays194:Go.Proofs.Lays.n194 Tryz.prog Tryz.lays194_ren:={
 mixed:=by kernel_rfl
 f194:=Tryz.func158.trans (congrArg some (by kernel_rfl))
 t0:=Tryz.underlying0
 a0:=Tryz.isAgg0
 z0:=Tryz.sizeOf0
 v0:=Tryz.zeroValue0
 t3:=Tryz.underlying3
 a3:=Tryz.isAgg3
 z3:=Tryz.sizeOf3
 v3:=Tryz.zeroValue3
 t4:=Tryz.underlying4
 a4:=Tryz.isAgg4
 z4:=Tryz.sizeOf4
 v4:=Tryz.zeroValue4
 t9:=Tryz.underlying9
 a9:=Tryz.isAgg9
 z9:=Tryz.sizeOf9
 v9:=Tryz.zeroValue9
 t31:=Tryz.underlying34
 a31:=Tryz.isAgg34
 z31:=Tryz.sizeOf34
 v31:=Tryz.zeroValue34}
open Go.RowKit Go.Lib Go.Sort in theorem Tryz.slices_Compact_string (blk off cap:Nat) (zs:List (List UInt8)) (w:World) (hH:Holds encStr w blk off zs.toArray) (hsz:zs.length≤9223372036854775807) (hcap:zs.length≤cap):
  Calls Tryz.prog 158 #[.slice (some ⟨blk,off,none⟩) zs.length cap] w fun e w'=>e= .returned (.slice (some ⟨blk,off,none⟩) (Lib.compact zs).length cap)∧∃ q,w'=putRow encStr (Sort.ahead w q) blk off (Lib.compact zs++List.replicate (zs.length-(Lib.compact zs).length) []).toArray:=Any.slices_Compact_string Tryz.lays194 blk off cap zs w hH hsz hcap
open Go.RowKit Go.Lib Go.Sort in theorem Tryz.slices_Compact_string_empty (a:Option Addr) (cap:Nat) (w:World):
  Calls Tryz.prog 158 #[.slice a 0 cap] w fun e w'=>e= .returned (.slice a 0 cap)∧w'=w:=Any.slices_Compact_string_empty Tryz.lays194 a cap w
end
section
open Go.Shelf
def Tryz.keys199_ren:Go.Shelf.Ren:=⟨fun|7=>199|10=>255|n=>n,fun|23=>146|26=>9|3=>33|28=>223|0=>0|27=>222|33=>129|4=>4|n=>n,fun|n=>n⟩
theorem Tryz.keys199:Go.Proofs.SlLaysZ.n7 Tryz.prog Tryz.keys199_ren:={
 mixed:=by kernel_rfl
 f7:=⟨Tryz.f199.name,by decide,Tryz.func199.trans (congrArg some (by kernel_rfl))⟩
 f10:=⟨Tryz.f255.name,by decide,Tryz.func255.trans (congrArg some (by kernel_rfl))⟩
 t0:=Tryz.underlying0
 a0:=Tryz.isAgg0
 z0:=Tryz.sizeOf0
 v0:=Tryz.zeroValue0
 t4:=Tryz.underlying4
 a4:=Tryz.isAgg4
 z4:=Tryz.sizeOf4
 v4:=Tryz.zeroValue4
 t23:=Tryz.underlying146
 a23:=Tryz.isAgg146
 z23:=Tryz.sizeOf146
 v23:=Tryz.zeroValue146
 t26:=Tryz.underlying9
 a26:=Tryz.isAgg9
 z26:=Tryz.sizeOf9
 v26:=Tryz.zeroValue9
 t27:=Tryz.underlying222
 a27:=Tryz.isAgg222
 z27:=Tryz.sizeOf222
 v27:=Tryz.zeroValue222
 t28:=Tryz.underlying223
 a28:=Tryz.isAgg223
 z28:=Tryz.sizeOf223
 v28:=Tryz.zeroValue223
 t33:=Tryz.underlying129
 a33:=Tryz.isAgg129
 z33:=Tryz.sizeOf129
 v33:=Tryz.zeroValue129}
def Tryz.sorted159_ren:Go.Shelf.Ren:=⟨fun|6=>159|8=>220|9=>221|11=>269|13=>271|12=>270|23=>298|24=>299|14=>289|15=>290|16=>291|17=>292|18=>293|19=>294|20=>295|21=>296|22=>297|25=>314|26=>315|27=>316|28=>317|29=>318|30=>287|31=>322|n=>n,fun|26=>9|28=>223|24=>34|0=>0|3=>3|37=>329|48=>350|50=>244|4=>4|40=>343|39=>342|45=>225|5=>5|9=>9|51=>363|55=>367|57=>370|58=>371|33=>129|n=>n,fun|n=>n⟩
theorem Tryz.sorted159:Go.Proofs.SlLaysZ.n6 Tryz.prog Tryz.sorted159_ren:={
 mixed:=by kernel_rfl
 f6:=⟨Tryz.f159.name,by decide,Tryz.func159.trans (congrArg some (by kernel_rfl))⟩
 f8:=⟨Tryz.f220.name,by decide,Tryz.func220.trans (congrArg some (by kernel_rfl))⟩
 f11:=⟨Tryz.f269.name,by decide,Tryz.func269.trans (congrArg some (by kernel_rfl))⟩
 t0:=Tryz.underlying0
 a0:=Tryz.isAgg0
 z0:=Tryz.sizeOf0
 v0:=Tryz.zeroValue0
 t24:=Tryz.underlying34
 a24:=Tryz.isAgg34
 z24:=Tryz.sizeOf34
 v24:=Tryz.zeroValue34
 t26:=Tryz.underlying9
 a26:=Tryz.isAgg9
 z26:=Tryz.sizeOf9
 v26:=Tryz.zeroValue9
 t28:=Tryz.underlying223
 a28:=Tryz.isAgg223
 z28:=Tryz.sizeOf223
 v28:=Tryz.zeroValue223
 i26:=by kernel_rfl}
def Tryz.sort221_ren:Go.Shelf.Ren:=⟨fun|6=>221|8=>271|9=>270|19=>298|20=>299|21=>289|22=>290|23=>291|24=>292|25=>293|26=>294|27=>295|28=>296|29=>297|36=>314|31=>315|32=>316|37=>317|38=>318|39=>287|41=>322|n=>n,fun|27=>34|29=>9|3=>3|32=>329|26=>34|0=>0|44=>350|46=>244|4=>4|36=>343|35=>342|41=>225|5=>5|9=>9|53=>363|57=>367|63=>370|64=>371|n=>n,fun|n=>n⟩
theorem Tryz.sort221:Go.Proofs.SlLaysM.n6 Tryz.prog Tryz.sort221_ren:={
 mixed:=by kernel_rfl
 f6:=⟨Tryz.f221.name,by decide,Tryz.func221.trans (congrArg some (by kernel_rfl))⟩
 f8:=Tryz.func271.trans (congrArg some (by kernel_rfl))
 f9:=⟨Tryz.f270.name,by decide,Tryz.func270.trans (congrArg some (by kernel_rfl))⟩
 f19:=Tryz.func298.trans (congrArg some (by kernel_rfl))
 f20:=Tryz.func299.trans (congrArg some (by kernel_rfl))
 f21:=⟨Tryz.f289.name,by decide,Tryz.func289.trans (congrArg some (by kernel_rfl))⟩
 f22:=⟨Tryz.f290.name,by decide,Tryz.func290.trans (congrArg some (by kernel_rfl))⟩
 f23:=⟨Tryz.f291.name,by decide,Tryz.func291.trans (congrArg some (by kernel_rfl))⟩
 f24:=⟨Tryz.f292.name,by decide,Tryz.func292.trans (congrArg some (by kernel_rfl))⟩
 f25:=⟨Tryz.f293.name,by decide,Tryz.func293.trans (congrArg some (by kernel_rfl))⟩
 f26:=⟨Tryz.f294.name,by decide,Tryz.func294.trans (congrArg some (by kernel_rfl))⟩
 f27:=⟨Tryz.f295.name,by decide,Tryz.func295.trans (congrArg some (by kernel_rfl))⟩
 f28:=⟨Tryz.f296.name,by decide,Tryz.func296.trans (congrArg some (by kernel_rfl))⟩
 f29:=⟨Tryz.f297.name,by decide,Tryz.func297.trans (congrArg some (by kernel_rfl))⟩
 f31:=Tryz.func315.trans (congrArg some (by kernel_rfl))
 f32:=Tryz.func316.trans (congrArg some (by kernel_rfl))
 f36:=⟨Tryz.f314.name,by decide,Tryz.func314.trans (congrArg some (by kernel_rfl))⟩
 f37:=⟨Tryz.f317.name,by decide,Tryz.func317.trans (congrArg some (by kernel_rfl))⟩
 f38:=⟨Tryz.f318.name,by decide,Tryz.func318.trans (congrArg some (by kernel_rfl))⟩
 f39:=⟨Tryz.f287.name,by decide,Tryz.func287.trans (congrArg some (by kernel_rfl))⟩
 f41:=⟨Tryz.f322.name,by decide,Tryz.func322.trans (congrArg some (by kernel_rfl))⟩
 t0:=Tryz.underlying0
 a0:=Tryz.isAgg0
 z0:=Tryz.sizeOf0
 v0:=Tryz.zeroValue0
 t3:=Tryz.underlying3
 a3:=Tryz.isAgg3
 z3:=Tryz.sizeOf3
 v3:=Tryz.zeroValue3
 t4:=Tryz.underlying4
 a4:=Tryz.isAgg4
 z4:=Tryz.sizeOf4
 v4:=Tryz.zeroValue4
 t5:=Tryz.underlying5
 a5:=Tryz.isAgg5
 z5:=Tryz.sizeOf5
 v5:=Tryz.zeroValue5
 t9:=Tryz.underlying9
 a9:=Tryz.isAgg9
 z9:=Tryz.sizeOf9
 v9:=Tryz.zeroValue9
 t26:=Tryz.underlying34
 a26:=Tryz.isAgg34
 z26:=Tryz.sizeOf34
 v26:=Tryz.zeroValue34
 t27:=Tryz.underlying34
 a27:=Tryz.isAgg34
 z27:=Tryz.sizeOf34
 v27:=Tryz.zeroValue34
 t29:=Tryz.underlying9
 a29:=Tryz.isAgg9
 z29:=Tryz.sizeOf9
 v29:=Tryz.zeroValue9
 t32:=Tryz.underlying329
 a32:=Tryz.isAgg329
 z32:=Tryz.sizeOf329
 v32:=Tryz.zeroValue329
 t35:=Tryz.underlying342
 a35:=Tryz.isAgg342
 z35:=Tryz.sizeOf342
 v35:=Tryz.zeroValue342
 t36:=Tryz.underlying343
 a36:=Tryz.isAgg343
 z36:=Tryz.sizeOf343
 v36:=Tryz.zeroValue343
 t41:=Tryz.underlying225
 a41:=Tryz.isAgg225
 z41:=Tryz.sizeOf225
 v41:=Tryz.zeroValue225
 t44:=Tryz.underlying350
 a44:=Tryz.isAgg350
 z44:=Tryz.sizeOf350
 v44:=Tryz.zeroValue350
 t46:=Tryz.underlying244
 a46:=Tryz.isAgg244
 z46:=Tryz.sizeOf244
 v46:=Tryz.zeroValue244
 t53:=Tryz.underlying363
 a53:=Tryz.isAgg363
 z53:=Tryz.sizeOf363
 v53:=Tryz.zeroValue363
 t57:=Tryz.underlying367
 a57:=Tryz.isAgg367
 z57:=Tryz.sizeOf367
 v57:=Tryz.zeroValue367
 t63:=Tryz.underlying370
 a63:=Tryz.isAgg370
 z63:=Tryz.sizeOf370
 v63:=Tryz.zeroValue370
 t64:=Tryz.underlying371
 a64:=Tryz.isAgg371
 z64:=Tryz.sizeOf371
 v64:=Tryz.zeroValue371}
end
section
open Go.RowKit Go.Maps Go.Sort Go.Shelf
theorem Tryz.sorts159 (m:Nat):AnyZ.SortsIn Tryz.prog Tryz.sorted159_ren Fence.wide m:=
 ⟨fun blk off cap ss W hH hblk hsz=>callsIn_wide.2 (AnyM.slices_Sort_string Tryz.sort221 blk off cap ss W hH hblk hsz),
  fun p cap W=>callsIn_wide.2 (AnyM.slices_Sort_string_none Tryz.sort221 p cap W)⟩
theorem Tryz.maps_Keys_199 (mb:Option Nat) (W:World):CallsIn Fence.wide 5 Tryz.prog 199 #[.map mb] W fun e w'=>e= .returned (.func (.func 255) #[] #[.pointer (some ⟨W.heap.size,0,none⟩)])∧w'=W.alloc (.cells #[.map mb] 146):=
 AnyZ.keys_in Tryz.keys199 Fence.wide 5 trivial rfl mb W
theorem Tryz.slices_Sorted_keys_159_199 {H:Type} (b nn:Nat) (D0:DataW H) (R:Value→Option (DataW H×List MemPlace)) (w:World) (hown:w.ownsMap Tryz.prog 9 R b nn D0) (hmax:Maps.size D0≤maxLen) (hbytes:Maps.size D0*16≤140737488355328):
  CallsIn Fence.wide 5 Tryz.prog 159 #[.func (.func 255) #[] #[.pointer (some ⟨w.heap.size,0,none⟩)]] (w.alloc (.cells #[.map (some b)] 146)) fun e w'=>∃ (v:Value) (ss:List (List UInt8)),e= .returned v∧ss.Perm (strKeys D0)∧
   w'.ownsRow (w.alloc (.cells #[.map (some b)] 146)).heap.size 9 1 v ss.length ((ss.mergeSort (fun x y=>decide (x≤y))).map encStr)∧(v= .slice none 0 0↔ss=[])∧Below (w.alloc (.cells #[.map (some b)] 146)).heap.size (w.alloc (.cells #[.map (some b)] 146)) w':=by
 have hbl:=hown.lt
 have hseq:SeqGives Fence.wide 2 Tryz.prog 255 #[.pointer (some ⟨w.heap.size,0,none⟩)] encStr (fun ss=>ss.Perm (strKeys D0)) (Maps.size D0) (w.alloc (.cells #[.map (some b)] 146)):=
  AnyZ.keys_gives (ρ:=Tryz.keys199_ren) {Tryz.keys199 with} Fence.wide _ trivial rfl (by omega) w.heap.size b nn D0 _ (by simp) (by simp) (by
   obtain⟨es,clock,hb,Ft,hs,hD⟩:=hown
   exact⟨es,clock,(Below.heap_alloc _ _ b hbl).trans hb,Ft,hs,hD⟩)
 exact AnyZ.sorted_in Tryz.sorted159 Fence.wide 5 trivial trivial trivial trivial rfl (by omega) (Tryz.sorts159 _) (enters_of Tryz.func221 (by kernel_rfl) rfl) 255 #[.pointer (some ⟨w.heap.size,0,none⟩)] trivial (enters_of Tryz.func255 (by kernel_rfl) rfl) _ _ hmax hbytes _ hseq
theorem Tryz.slices_Sorted_keys_nil_159_199 (w:World):
  CallsIn Fence.wide 5 Tryz.prog 159 #[.func (.func 255) #[] #[.pointer (some ⟨w.heap.size,0,none⟩)]] (w.alloc (.cells #[.map none] 146)) fun e w'=>∃ (v:Value) (ss:List (List UInt8)),e= .returned v∧ss=[]∧
   w'.ownsRow (w.alloc (.cells #[.map none] 146)).heap.size 9 1 v ss.length ((ss.mergeSort (fun x y=>decide (x≤y))).map encStr)∧(v= .slice none 0 0↔ss=[])∧Below (w.alloc (.cells #[.map none] 146)).heap.size (w.alloc (.cells #[.map none] 146)) w':=by
 have hseq:SeqGives Fence.wide 2 Tryz.prog 255 #[.pointer (some ⟨w.heap.size,0,none⟩)] encStr (fun ss:List (List UInt8)=>ss=[]) 0 (w.alloc (.cells #[.map none] 146)):=
  AnyZ.keys_gives_nil (ρ:=Tryz.keys199_ren) {Tryz.keys199 with} Fence.wide _ trivial rfl w.heap.size _ (by simp) (by simp)
 exact AnyZ.sorted_in Tryz.sorted159 Fence.wide 5 trivial trivial trivial trivial rfl (by omega) (Tryz.sorts159 _) (enters_of Tryz.func221 (by kernel_rfl) rfl) 255 #[.pointer (some ⟨w.heap.size,0,none⟩)] trivial (enters_of Tryz.func255 (by kernel_rfl) rfl) _ 0 (Nat.zero_le _) (by omega) _ hseq
end
end Go.Proofs
