/- The shelf's contracts at this program. -/
import Derived.Shelf.Strings.Builder1
import Derived.Shelf.Strings.Builder2
import Derived.Shelf.Strings.OnBuilder
import Derived.Shelf.Small.Bits
import Derived.Shelf.Small.Wraps
import Derived.Shelf.Strings.BuilderF
import Derived.Shelf.Strings.BuilderK
import Derived.Shelf.Strings.Builder2Cap
import Derived.Shelf.Strconv.Itoa0
import Derived.Ground.Names2Prog
import Derived.Shelf.Slices.Clone
import Derived.Shelf.Slices.CompactS
import Derived.Shelf.Slices.In.SortNone
import Derived.Ground.SlgnProg
import Derived.Shelf.SlicesE.Compact
import Derived.Shelf.SlicesE.Clone
import Derived.Ground.SlgfProg
import Derived.Shelf.SlicesE.IndexFunc
import Derived.Shelf.SlicesE.DeleteFunc
import Derived.Ground.SlgmProg
import Derived.Shelf.SortM.Plain
import Derived.Test.YtehaoggjlciobaaGreatProg
import Derived.Shelf.SlGeneric
import Derived.Shelf.SlIter.Nil
import Derived.Shelf.SortM.SortNone
import Derived.Ground.GgzProg
set_option linter.all false
set_option maxRecDepth 20000
set_option maxHeartbeats 16000000
namespace Go.Proofs
section
open Go.Shelf
def Tryz.lays169_ren:Go.Shelf.Ren:=⟨fun|169=>262|n=>n,fun|70=>313|9=>9|0=>0|72=>315|37=>105|127=>337|3=>3|5=>5|n=>n,fun|n=>n⟩
theorem Tryz.lays169:Go.Proofs.Lays.n169 prog lays169_ren:={
 mixed:=by kernel_rfl
 f169:=func262.trans (congrArg some (by kernel_rfl))
 t0:=underlying0
 a0:=isAgg0
 z0:=sizeOf0
 v0:=zeroValue0
 t3:=underlying3
 a3:=isAgg3
 z3:=sizeOf3
 v3:=zeroValue3
 t9:=underlying9
 a9:=isAgg9
 z9:=sizeOf9
 v9:=zeroValue9
 t37:=underlying105
 a37:=isAgg105
 z37:=sizeOf105
 v37:=zeroValue105
 t70:=underlying313
 a70:=isAgg313
 z70:=sizeOf313
 v70:=zeroValue313
 t72:=underlying315
 a72:=isAgg315
 z72:=sizeOf315
 v72:=zeroValue315
 t127:=underlying337
 a127:=isAgg337
 z127:=sizeOf337
 v127:=zeroValue337}
theorem Tryz.Builder_Extra_169:Builder.Extra prog lays169_ren:={
 sizeBuilder:=by kernel_rfl
 liesBuilder:=by kernel_rfl
 t5:=underlying5
 a5:=isAgg5
 z5:=sizeOf5
 v5:=zeroValue5
 infoByte:=by kernel_rfl
 cellsByte:=by kernel_rfl
 sizeByte:=by kernel_rfl
 neB5:=by decide}
open Go.RowKit in theorem Tryz.Builder_String_any (B b:Nat) (l:List UInt8) (w:World) (h:Lib.IsBuilder 315 5 B b (Lib.byteCells l) w) (hBw:B≤w.heap.size):
  Calls prog 262 #[.pointer (some ⟨b,0,none⟩)] w fun e w'=>e= .returned (.string ⟨l.toArray⟩)∧Below B w w':=Any.Builder_String_any lays169 Tryz.Builder_Extra_169 B b l w h hBw
def Tryz.lays156_ren:Go.Shelf.Ren:=⟨fun|156=>210|165=>260|166=>261|169=>262|240=>283|241=>284|276=>310|277=>311|n=>n,fun|31=>34|9=>9|3=>3|4=>4|0=>0|20=>20|72=>315|76=>318|70=>313|37=>105|75=>317|127=>337|164=>358|5=>5|80=>320|n=>n,fun|n=>n⟩
theorem Tryz.lays156:Go.Proofs.Lays.n156 prog lays156_ren:={
 mixed:=by kernel_rfl
 f156:=func210.trans (congrArg some (by kernel_rfl))
 f165:=func260.trans (congrArg some (by kernel_rfl))
 f166:=func261.trans (congrArg some (by kernel_rfl))
 f169:=func262.trans (congrArg some (by kernel_rfl))
 f240:=func283.trans (congrArg some (by kernel_rfl))
 f241:=func284.trans (congrArg some (by kernel_rfl))
 f276:=func310.trans (congrArg some (by kernel_rfl))
 f277:=func311.trans (congrArg some (by kernel_rfl))
 t0:=underlying0
 a0:=isAgg0
 z0:=sizeOf0
 v0:=zeroValue0
 t3:=underlying3
 a3:=isAgg3
 z3:=sizeOf3
 v3:=zeroValue3
 t4:=underlying4
 a4:=isAgg4
 z4:=sizeOf4
 v4:=zeroValue4
 t9:=underlying9
 a9:=isAgg9
 z9:=sizeOf9
 v9:=zeroValue9
 t20:=underlying20
 a20:=isAgg20
 z20:=sizeOf20
 v20:=zeroValue20
 t31:=underlying34
 a31:=isAgg34
 z31:=sizeOf34
 v31:=zeroValue34
 t37:=underlying105
 a37:=isAgg105
 z37:=sizeOf105
 v37:=zeroValue105
 t70:=underlying313
 a70:=isAgg313
 z70:=sizeOf313
 v70:=zeroValue313
 t72:=underlying315
 a72:=isAgg315
 z72:=sizeOf315
 v72:=zeroValue315
 t75:=underlying317
 a75:=isAgg317
 z75:=sizeOf317
 v75:=zeroValue317
 t76:=underlying318
 a76:=isAgg318
 z76:=sizeOf318
 v76:=zeroValue318
 t127:=underlying337
 a127:=isAgg337
 z127:=sizeOf337
 v127:=zeroValue337
 t164:=underlying358
 a164:=isAgg358
 z164:=sizeOf358
 v164:=zeroValue358}
theorem Tryz.Builder_Extra_156:Builder.Extra prog lays156_ren:={
 sizeBuilder:=by kernel_rfl
 liesBuilder:=by kernel_rfl
 t5:=underlying5
 a5:=isAgg5
 z5:=sizeOf5
 v5:=zeroValue5
 infoByte:=by kernel_rfl
 cellsByte:=by kernel_rfl
 sizeByte:=by kernel_rfl
 neB5:=by decide}
open Go.RowKit in theorem Tryz.strings_Join (bk o c:Nat) (xs:List ByteArray) (sep:ByteArray) (w:World) (hcells:∀ (j:Nat) x,xs[j]? =some x→w.cell? ⟨bk,o+j,none⟩=some (.string x)) (hbk:bk<w.heap.size) (hN:xs.length≤140737488355328) (hcap:xs.length≤c) (hlen:(Lib.join (xs.map (·.data.toList)) sep.data.toList).length≤140737488355328):
  Calls prog 210 #[.slice (some ⟨bk,o,none⟩) xs.length c,.string sep] w fun e w'=>e= .returned (.string ⟨(Lib.join (xs.map (·.data.toList)) sep.data.toList).toArray⟩)∧Below w.heap.size w w':=Any.strings_Join lays156 Tryz.Builder_Extra_156 bk o c xs sep w hcells hbk hN hcap hlen
def Tryz.lays194_ren:Go.Shelf.Ren:=⟨fun|194=>158|n=>n,fun|31=>34|9=>9|3=>3|4=>4|0=>0|n=>n,fun|n=>n⟩
theorem Tryz.lays194:Go.Proofs.Lays.n194 prog lays194_ren:={
 mixed:=by kernel_rfl
 f194:=func158.trans (congrArg some (by kernel_rfl))
 t0:=underlying0
 a0:=isAgg0
 z0:=sizeOf0
 v0:=zeroValue0
 t3:=underlying3
 a3:=isAgg3
 z3:=sizeOf3
 v3:=zeroValue3
 t4:=underlying4
 a4:=isAgg4
 z4:=sizeOf4
 v4:=zeroValue4
 t9:=underlying9
 a9:=isAgg9
 z9:=sizeOf9
 v9:=zeroValue9
 t31:=underlying34
 a31:=isAgg34
 z31:=sizeOf34
 v31:=zeroValue34}
open Go.RowKit Go.Lib Go.Sort in theorem Tryz.slices_Compact_string (blk off cap:Nat) (zs:List (List UInt8)) (w:World) (hH:Holds encStr w blk off zs.toArray) (hsz:zs.length≤9223372036854775807) (hcap:zs.length≤cap):
  Calls prog 158 #[.slice (some ⟨blk,off,none⟩) zs.length cap] w fun e w'=>e= .returned (.slice (some ⟨blk,off,none⟩) (Lib.compact zs).length cap)∧∃ q,w'=putRow encStr (Sort.ahead w q) blk off (Lib.compact zs++List.replicate (zs.length-(Lib.compact zs).length) []).toArray:=Any.slices_Compact_string lays194 blk off cap zs w hH hsz hcap
open Go.RowKit Go.Lib Go.Sort in theorem Tryz.slices_Compact_string_empty (a:Option Addr) (cap:Nat) (w:World):
  Calls prog 158 #[.slice a 0 cap] w fun e w'=>e= .returned (.slice a 0 cap)∧w'=w:=Any.slices_Compact_string_empty lays194 a cap w
end
section
open Go.Shelf
def Tryz.keys199_ren:Go.Shelf.Ren:=⟨fun|7=>199|10=>255|n=>n,fun|23=>146|26=>9|3=>33|28=>223|0=>0|27=>222|33=>129|4=>4|n=>n,fun|n=>n⟩
theorem Tryz.keys199:Go.Proofs.SlLaysZ.n7 prog keys199_ren:={
 mixed:=by kernel_rfl
 f7:=⟨f199.name,by decide,func199.trans (congrArg some (by kernel_rfl))⟩
 f10:=⟨f255.name,by decide,func255.trans (congrArg some (by kernel_rfl))⟩
 t0:=underlying0
 a0:=isAgg0
 z0:=sizeOf0
 v0:=zeroValue0
 t4:=underlying4
 a4:=isAgg4
 z4:=sizeOf4
 v4:=zeroValue4
 t23:=underlying146
 a23:=isAgg146
 z23:=sizeOf146
 v23:=zeroValue146
 t26:=underlying9
 a26:=isAgg9
 z26:=sizeOf9
 v26:=zeroValue9
 t27:=underlying222
 a27:=isAgg222
 z27:=sizeOf222
 v27:=zeroValue222
 t28:=underlying223
 a28:=isAgg223
 z28:=sizeOf223
 v28:=zeroValue223
 t33:=underlying129
 a33:=isAgg129
 z33:=sizeOf129
 v33:=zeroValue129}
def Tryz.sorted159_ren:Go.Shelf.Ren:=⟨fun|6=>159|8=>220|9=>221|11=>269|13=>271|12=>270|23=>298|24=>299|14=>289|15=>290|16=>291|17=>292|18=>293|19=>294|20=>295|21=>296|22=>297|25=>314|26=>315|27=>316|28=>317|29=>318|30=>287|31=>322|n=>n,fun|26=>9|28=>223|24=>34|0=>0|3=>3|37=>329|48=>350|50=>244|4=>4|40=>343|39=>342|45=>225|5=>5|9=>9|51=>363|55=>367|57=>370|58=>371|33=>129|n=>n,fun|n=>n⟩
theorem Tryz.sorted159:Go.Proofs.SlLaysZ.n6 prog sorted159_ren:={
 mixed:=by kernel_rfl
 f6:=⟨f159.name,by decide,func159.trans (congrArg some (by kernel_rfl))⟩
 f8:=⟨f220.name,by decide,func220.trans (congrArg some (by kernel_rfl))⟩
 f11:=⟨f269.name,by decide,func269.trans (congrArg some (by kernel_rfl))⟩
 t0:=underlying0
 a0:=isAgg0
 z0:=sizeOf0
 v0:=zeroValue0
 t24:=underlying34
 a24:=isAgg34
 z24:=sizeOf34
 v24:=zeroValue34
 t26:=underlying9
 a26:=isAgg9
 z26:=sizeOf9
 v26:=zeroValue9
 t28:=underlying223
 a28:=isAgg223
 z28:=sizeOf223
 v28:=zeroValue223
 i26:=by kernel_rfl}
def Tryz.sort221_ren:Go.Shelf.Ren:=⟨fun|6=>221|8=>271|9=>270|19=>298|20=>299|21=>289|22=>290|23=>291|24=>292|25=>293|26=>294|27=>295|28=>296|29=>297|36=>314|31=>315|32=>316|37=>317|38=>318|39=>287|41=>322|n=>n,fun|27=>34|29=>9|3=>3|32=>329|26=>34|0=>0|44=>350|46=>244|4=>4|36=>343|35=>342|41=>225|5=>5|9=>9|53=>363|57=>367|63=>370|64=>371|n=>n,fun|n=>n⟩
theorem Tryz.sort221:Go.Proofs.SlLaysM.n6 prog sort221_ren:={
 mixed:=by kernel_rfl
 f6:=⟨f221.name,by decide,func221.trans (congrArg some (by kernel_rfl))⟩
 f8:=func271.trans (congrArg some (by kernel_rfl))
 f9:=⟨f270.name,by decide,func270.trans (congrArg some (by kernel_rfl))⟩
 f19:=func298.trans (congrArg some (by kernel_rfl))
 f20:=func299.trans (congrArg some (by kernel_rfl))
 f21:=⟨f289.name,by decide,func289.trans (congrArg some (by kernel_rfl))⟩
 f22:=⟨f290.name,by decide,func290.trans (congrArg some (by kernel_rfl))⟩
 f23:=⟨f291.name,by decide,func291.trans (congrArg some (by kernel_rfl))⟩
 f24:=⟨f292.name,by decide,func292.trans (congrArg some (by kernel_rfl))⟩
 f25:=⟨f293.name,by decide,func293.trans (congrArg some (by kernel_rfl))⟩
 f26:=⟨f294.name,by decide,func294.trans (congrArg some (by kernel_rfl))⟩
 f27:=⟨f295.name,by decide,func295.trans (congrArg some (by kernel_rfl))⟩
 f28:=⟨f296.name,by decide,func296.trans (congrArg some (by kernel_rfl))⟩
 f29:=⟨f297.name,by decide,func297.trans (congrArg some (by kernel_rfl))⟩
 f31:=func315.trans (congrArg some (by kernel_rfl))
 f32:=func316.trans (congrArg some (by kernel_rfl))
 f36:=⟨f314.name,by decide,func314.trans (congrArg some (by kernel_rfl))⟩
 f37:=⟨f317.name,by decide,func317.trans (congrArg some (by kernel_rfl))⟩
 f38:=⟨f318.name,by decide,func318.trans (congrArg some (by kernel_rfl))⟩
 f39:=⟨f287.name,by decide,func287.trans (congrArg some (by kernel_rfl))⟩
 f41:=⟨f322.name,by decide,func322.trans (congrArg some (by kernel_rfl))⟩
 t0:=underlying0
 a0:=isAgg0
 z0:=sizeOf0
 v0:=zeroValue0
 t3:=underlying3
 a3:=isAgg3
 z3:=sizeOf3
 v3:=zeroValue3
 t4:=underlying4
 a4:=isAgg4
 z4:=sizeOf4
 v4:=zeroValue4
 t5:=underlying5
 a5:=isAgg5
 z5:=sizeOf5
 v5:=zeroValue5
 t9:=underlying9
 a9:=isAgg9
 z9:=sizeOf9
 v9:=zeroValue9
 t26:=underlying34
 a26:=isAgg34
 z26:=sizeOf34
 v26:=zeroValue34
 t27:=underlying34
 a27:=isAgg34
 z27:=sizeOf34
 v27:=zeroValue34
 t29:=underlying9
 a29:=isAgg9
 z29:=sizeOf9
 v29:=zeroValue9
 t32:=underlying329
 a32:=isAgg329
 z32:=sizeOf329
 v32:=zeroValue329
 t35:=underlying342
 a35:=isAgg342
 z35:=sizeOf342
 v35:=zeroValue342
 t36:=underlying343
 a36:=isAgg343
 z36:=sizeOf343
 v36:=zeroValue343
 t41:=underlying225
 a41:=isAgg225
 z41:=sizeOf225
 v41:=zeroValue225
 t44:=underlying350
 a44:=isAgg350
 z44:=sizeOf350
 v44:=zeroValue350
 t46:=underlying244
 a46:=isAgg244
 z46:=sizeOf244
 v46:=zeroValue244
 t53:=underlying363
 a53:=isAgg363
 z53:=sizeOf363
 v53:=zeroValue363
 t57:=underlying367
 a57:=isAgg367
 z57:=sizeOf367
 v57:=zeroValue367
 t63:=underlying370
 a63:=isAgg370
 z63:=sizeOf370
 v63:=zeroValue370
 t64:=underlying371
 a64:=isAgg371
 z64:=sizeOf371
 v64:=zeroValue371}
end
section
open Go.RowKit Go.Maps Go.Sort Go.Shelf
theorem Tryz.sorts159 (m:Nat):AnyZ.SortsIn prog sorted159_ren Fence.wide m:=
 ⟨fun blk off cap ss W hH hblk hsz=>callsIn_wide.2 (AnyM.slices_Sort_string sort221 blk off cap ss W hH hblk hsz),
  fun p cap W=>callsIn_wide.2 (AnyM.slices_Sort_string_none sort221 p cap W)⟩
theorem Tryz.maps_Keys_199 (mb:Option Nat) (W:World):CallsIn Fence.wide 5 prog 199 #[.map mb] W fun e w'=>e= .returned (.func (.func 255) #[] #[.pointer (some ⟨W.heap.size,0,none⟩)])∧w'=W.alloc (.cells #[.map mb] 146):=
 AnyZ.keys_in keys199 Fence.wide 5 trivial rfl mb W
theorem Tryz.slices_Sorted_keys_159_199 {H:Type} (b nn:Nat) (D0:DataW H) (R:Value→Option (DataW H×List MemPlace)) (w:World) (hown:w.ownsMap prog 9 R b nn D0) (hmax:Maps.size D0≤maxLen) (hbytes:Maps.size D0*16≤140737488355328):
  CallsIn Fence.wide 5 prog 159 #[.func (.func 255) #[] #[.pointer (some ⟨w.heap.size,0,none⟩)]] (w.alloc (.cells #[.map (some b)] 146)) fun e w'=>∃ (v:Value) (ss:List (List UInt8)),e= .returned v∧ss.Perm (strKeys D0)∧
   w'.ownsRow (w.alloc (.cells #[.map (some b)] 146)).heap.size 9 1 v ss.length ((ss.mergeSort (fun x y=>decide (x≤y))).map encStr)∧(v= .slice none 0 0↔ss=[])∧Below (w.alloc (.cells #[.map (some b)] 146)).heap.size (w.alloc (.cells #[.map (some b)] 146)) w':=by
 have hbl:=hown.lt
 have hseq:SeqGives Fence.wide 2 prog 255 #[.pointer (some ⟨w.heap.size,0,none⟩)] encStr (fun ss=>ss.Perm (strKeys D0)) (Maps.size D0) (w.alloc (.cells #[.map (some b)] 146)):=
  AnyZ.keys_gives (ρ:=keys199_ren) {keys199 with} Fence.wide _ trivial rfl (by omega) w.heap.size b nn D0 _ (by simp) (by simp) (by
   obtain⟨es,clock,hb,Ft,hs,hD⟩:=hown
   exact⟨es,clock,(Below.heap_alloc _ _ b hbl).trans hb,Ft,hs,hD⟩)
 exact AnyZ.sorted_in sorted159 Fence.wide 5 trivial trivial trivial trivial rfl (by omega) (sorts159 _) (enters_of func221 (by kernel_rfl) rfl) 255 #[.pointer (some ⟨w.heap.size,0,none⟩)] trivial (enters_of func255 (by kernel_rfl) rfl) _ _ hmax hbytes _ hseq
theorem Tryz.slices_Sorted_keys_nil_159_199 (w:World):
  CallsIn Fence.wide 5 prog 159 #[.func (.func 255) #[] #[.pointer (some ⟨w.heap.size,0,none⟩)]] (w.alloc (.cells #[.map none] 146)) fun e w'=>∃ (v:Value) (ss:List (List UInt8)),e= .returned v∧ss=[]∧
   w'.ownsRow (w.alloc (.cells #[.map none] 146)).heap.size 9 1 v ss.length ((ss.mergeSort (fun x y=>decide (x≤y))).map encStr)∧(v= .slice none 0 0↔ss=[])∧Below (w.alloc (.cells #[.map none] 146)).heap.size (w.alloc (.cells #[.map none] 146)) w':=by
 have hseq:SeqGives Fence.wide 2 prog 255 #[.pointer (some ⟨w.heap.size,0,none⟩)] encStr (fun ss:List (List UInt8)=>ss=[]) 0 (w.alloc (.cells #[.map none] 146)):=
  AnyZ.keys_gives_nil (ρ:=keys199_ren) {keys199 with} Fence.wide _ trivial rfl w.heap.size _ (by simp) (by simp)
 exact AnyZ.sorted_in sorted159 Fence.wide 5 trivial trivial trivial trivial rfl (by omega) (sorts159 _) (enters_of func221 (by kernel_rfl) rfl) 255 #[.pointer (some ⟨w.heap.size,0,none⟩)] trivial (enters_of func255 (by kernel_rfl) rfl) _ 0 (Nat.zero_le _) (by omega) _ hseq
end
end Go.Proofs
