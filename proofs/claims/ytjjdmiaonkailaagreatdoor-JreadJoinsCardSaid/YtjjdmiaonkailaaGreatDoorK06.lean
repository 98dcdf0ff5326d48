/- Walks and plain laws, packed: Shelf2, LexA, LexP. -/
import Derived.Shelf.Strings.Builder1
import Derived.Shelf.Strings.Builder2
import Derived.Shelf.Strings.OnBuilder
import Derived.Shelf.Strings.Trim
import Derived.Shelf.Small.Utf8
import Derived.Shelf.Small.Strs
import Derived.Shelf.Strings.BuilderF
import Derived.Shelf.Strings.BuilderK
import Derived.Shelf.Utf8.RuneCount
import Derived.Shelf.Strings.Builder2Cap
import Derived.Shelf.Strconv.Itoa0
import Derived.Shelf.Strconv.Itoa1
import Derived.Shelf.LaysM
import Derived.Shelf.Strconv.Itoa2
import Derived.Shelf.Strconv.Itoa3
import Derived.Shelf.Strconv.Itoa4
import Derived.Shelf.Strconv.ParseIntEmpty
import Derived.Shelf.Strconv.Clone
import Derived.Shelf.Strconv.SyntaxError
import Derived.Shelf.LaysC
import Derived.Shelf.Strconv.ToError
import Derived.Shelf.Strconv.Lower
import Derived.Shelf.Strconv.ParseUint10
import Derived.Shelf.Strconv.ParseUint10Empty
import Derived.Shelf.Strconv.ParseUint10Any
import Derived.Shelf.Strconv.ParseInt10
import Derived.Shelf.Strconv.RangeError
import Derived.Shelf.Strconv.ToErrorRange
import Derived.Shelf.Strconv.ParseUintEmpty
import Derived.Shelf.Strconv.ParseUint10b64
import Derived.Shelf.Strconv.ParseUint10b32
import Derived.Shelf.Strconv.ParseUint10b16
import Derived.Shelf.Strconv.ParseUint10b8
import Derived.Shelf.Strconv.ParseUint10At
import Derived.Shelf.Strconv.ParseInt10At64
import Derived.Shelf.Strconv.ParseInt10At32
import Derived.Shelf.Strconv.ParseInt10At16
import Derived.Shelf.Strconv.ParseInt10At8
import Derived.Shelf.Strconv.ParseInt10All
import Derived.Shelf.Strconv.ParseIntPublic10
import Derived.Shelf.Strconv.ErrVarParseInt
import Derived.Shelf.Strings.Search1
import Derived.Shelf.Strings.Search2
import Derived.Shelf.Strings.Search3
import Derived.Shelf.Strings.Count
import Derived.Shelf.Strings.Shaped
import Derived.Shelf.Strings.Prefix
import Derived.Shelf.Strings.Split
import Derived.Shelf.Strings.Fields
import Derived.Shelf.Strings.SplitShaped
import Derived.Shelf.Unicode.Latin
import Derived.Shelf.Unicode.Decode
import Derived.Shelf.Strings.Runes
import Derived.Shelf.Strings.RuneCount
import Derived.Shelf.Strings.AsciiSet
import Derived.Shelf.Unicode.DecodeSlow
import Derived.Shelf.Unicode.DecodeAny
import Derived.Shelf.Unicode.Is16White
import Derived.Shelf.Unicode.IsSpaceAny
import Derived.Shelf.Unicode.DecodeLast
import Derived.Shelf.Unicode.Is16WhiteD
import Derived.Shelf.Unicode.IsSpaceAnyD
import Derived.Shelf.Unicode.Is16Any
import Derived.Shelf.Unicode.Is32Any
import Derived.Shelf.Unicode.ExclAny
import Derived.Shelf.Strings.BuilderCap
import Derived.Shelf.Slices.Turned
import Derived.Test.YtjjdmiaonkailaaGreatDoorProg
import Derived.Shelf.Strings.SlTrimAscii
import Derived.Test.YtjjdmiaonkailaaGreatDoorK05
import Derived.Test.YtjjdmiaonkailaaGreatDoorK02
import Derived.Test.YtjjdmiaonkailaaGreatDoorK04
namespace Go.Proofs
section
open Go.Shelf
def Tryz.lays160_ren:Go.Shelf.Ren:=⟨fun | 160=>156 | 232=>182 | 231=>181 | 227=>183 | 234=>185 | 233=>184 | 236=>187 | 235=>186 | 228=>199 | 271=>201 | 151=>200 | 197=>174 | 120=>206 | 152=>205 | 260=>193 | 137=>97 | 119=>207 | 224=>152 | 225=>151 | 217=>124 | 266=>150 | n=>n,fun | 9=>9 | 4=>4 | 3=>3 | 5=>5 | 117=>216 | 116=>215 | 0=>0 | 124=>219 | 21=>21 | 105=>205 | 46=>143 | 119=>144 | 139=>236 | 138=>235 | n=>n,fun | 3=>9 | 4=>10 | n=>n⟩
theorem Tryz.lays160:Go.Proofs.Lays.n160 Tryz.prog Tryz.lays160_ren:={
 mixed:=by kernel_rfl
 f119:=Tryz.func207.trans (congrArg some (by kernel_rfl))
 f120:=Tryz.func206.trans (congrArg some (by kernel_rfl))
 f137:=Tryz.func97.trans (congrArg some (by kernel_rfl))
 f151:=Tryz.func200.trans (congrArg some (by kernel_rfl))
 f152:=Tryz.func205.trans (congrArg some (by kernel_rfl))
 f160:=Tryz.func156.trans (congrArg some (by kernel_rfl))
 f197:=Tryz.func174.trans (congrArg some (by kernel_rfl))
 f217:=Tryz.func124.trans (congrArg some (by kernel_rfl))
 f224:=Tryz.func152.trans (congrArg some (by kernel_rfl))
 f225:=Tryz.func151.trans (congrArg some (by kernel_rfl))
 f227:=Tryz.func183.trans (congrArg some (by kernel_rfl))
 f228:=Tryz.func199.trans (congrArg some (by kernel_rfl))
 f231:=Tryz.func181.trans (congrArg some (by kernel_rfl))
 f232:=Tryz.func182.trans (congrArg some (by kernel_rfl))
 f233:=Tryz.func184.trans (congrArg some (by kernel_rfl))
 f234:=Tryz.func185.trans (congrArg some (by kernel_rfl))
 f235:=Tryz.func186.trans (congrArg some (by kernel_rfl))
 f236:=Tryz.func187.trans (congrArg some (by kernel_rfl))
 f260:=Tryz.func193.trans (congrArg some (by kernel_rfl))
 f266:=Tryz.func150.trans (congrArg some (by kernel_rfl))
 f271:=Tryz.func201.trans (congrArg some (by kernel_rfl))
 t0:=Tryz.underlying0
 a0:=Tryz.isAgg0
 z0:=Tryz.sizeOf0
 v0:=Tryz.zeroValue0
 t3:=Tryz.underlying3
 a3:=Tryz.isAgg3
 z3:=Tryz.sizeOf3
 v3:=Tryz.zeroValue3
 t4:=Tryz.underlying4
 a4:=Tryz.isAgg4
 z4:=Tryz.sizeOf4
 v4:=Tryz.zeroValue4
 t5:=Tryz.underlying5
 a5:=Tryz.isAgg5
 z5:=Tryz.sizeOf5
 v5:=Tryz.zeroValue5
 t9:=Tryz.underlying9
 a9:=Tryz.isAgg9
 z9:=Tryz.sizeOf9
 v9:=Tryz.zeroValue9
 t21:=Tryz.underlying21
 a21:=Tryz.isAgg21
 z21:=Tryz.sizeOf21
 v21:=Tryz.zeroValue21
 t46:=Tryz.underlying143
 a46:=Tryz.isAgg143
 z46:=Tryz.sizeOf143
 v46:=Tryz.zeroValue143
 t105:=Tryz.underlying205
 a105:=Tryz.isAgg205
 z105:=Tryz.sizeOf205
 v105:=Tryz.zeroValue205
 t116:=Tryz.underlying215
 a116:=Tryz.isAgg215
 z116:=Tryz.sizeOf215
 t117:=Tryz.underlying216
 a117:=Tryz.isAgg216
 z117:=Tryz.sizeOf216
 v117:=Tryz.zeroValue216
 t119:=Tryz.underlying144
 a119:=Tryz.isAgg144
 z119:=Tryz.sizeOf144
 t124:=Tryz.underlying219
 a124:=Tryz.isAgg219
 z124:=Tryz.sizeOf219
 v124:=Tryz.zeroValue219
 t138:=Tryz.underlying235
 a138:=Tryz.isAgg235
 z138:=Tryz.sizeOf235
 v138:=Tryz.zeroValue235
 t139:=Tryz.underlying236
 a139:=Tryz.isAgg236
 z139:=Tryz.sizeOf236
 v139:=Tryz.zeroValue236
 g3:=by kernel_rfl
 g4:=by kernel_rfl }
def Tryz.laysC174_ren:Go.Shelf.Ren:=⟨fun | 174=>127 | 247=>154 | 245=>155 | 287=>176 | 279=>177 | 280=>178 | 281=>179 | 282=>180 | 321=>194 | 322=>195 | 316=>196 | 171=>198 | 205=>197 | 243=>204 | 246=>112 | 283=>142 | 284=>143 | 285=>144 | 286=>145 | 129=>163 | 317=>162 | 318=>164 | 319=>165 | 320=>166 | 337=>189 | 338=>190 | n=>n,fun | 9=>9 | 3=>3 | 2=>2 | 75=>48 | 85=>165 | 4=>4 | 167=>209 | 5=>5 | 53=>169 | 175=>186 | 46=>143 | 168=>210 | 37=>100 | 0=>0 | 210=>228 | 21=>21 | 127=>141 | 145=>239 | 143=>237 | 171=>168 | 173=>172 | 212=>189 | 51=>177 | 20=>20 | 213=>190 | 232=>231 | 233=>232 | 80=>106 | n=>n,fun | 15=>5 | 16=>6 | 17=>4 | 18=>7 | 19=>8 | n=>n⟩
theorem Tryz.laysC174:Go.Proofs.LaysC.n174 Tryz.prog Tryz.laysC174_ren:={
 mixed:=by kernel_rfl
 f129:=Tryz.func163.trans (congrArg some (by kernel_rfl))
 f171:=Tryz.func198.trans (congrArg some (by kernel_rfl))
 f174:=Tryz.func127.trans (congrArg some (by kernel_rfl))
 f205:=Tryz.func197.trans (congrArg some (by kernel_rfl))
 f243:=Tryz.func204.trans (congrArg some (by kernel_rfl))
 f245:=Tryz.func155.trans (congrArg some (by kernel_rfl))
 f246:=Tryz.func112.trans (congrArg some (by kernel_rfl))
 f247:=Tryz.func154.trans (congrArg some (by kernel_rfl))
 f279:=Tryz.func177.trans (congrArg some (by kernel_rfl))
 f280:=Tryz.func178.trans (congrArg some (by kernel_rfl))
 f281:=Tryz.func179.trans (congrArg some (by kernel_rfl))
 f282:=Tryz.func180.trans (congrArg some (by kernel_rfl))
 f283:=Tryz.func142.trans (congrArg some (by kernel_rfl))
 f284:=Tryz.func143.trans (congrArg some (by kernel_rfl))
 f285:=Tryz.func144.trans (congrArg some (by kernel_rfl))
 f286:=Tryz.func145.trans (congrArg some (by kernel_rfl))
 f287:=Tryz.func176.trans (congrArg some (by kernel_rfl))
 f316:=Tryz.func196.trans (congrArg some (by kernel_rfl))
 f317:=Tryz.func162.trans (congrArg some (by kernel_rfl))
 f318:=Tryz.func164.trans (congrArg some (by kernel_rfl))
 f319:=Tryz.func165.trans (congrArg some (by kernel_rfl))
 f320:=Tryz.func166.trans (congrArg some (by kernel_rfl))
 f321:=Tryz.func194.trans (congrArg some (by kernel_rfl))
 f322:=Tryz.func195.trans (congrArg some (by kernel_rfl))
 f337:=Tryz.func189.trans (congrArg some (by kernel_rfl))
 f338:=Tryz.func190.trans (congrArg some (by kernel_rfl))
 t0:=Tryz.underlying0
 a0:=Tryz.isAgg0
 z0:=Tryz.sizeOf0
 v0:=Tryz.zeroValue0
 t2:=Tryz.underlying2
 a2:=Tryz.isAgg2
 z2:=Tryz.sizeOf2
 v2:=Tryz.zeroValue2
 t3:=Tryz.underlying3
 a3:=Tryz.isAgg3
 z3:=Tryz.sizeOf3
 v3:=Tryz.zeroValue3
 t4:=Tryz.underlying4
 a4:=Tryz.isAgg4
 z4:=Tryz.sizeOf4
 v4:=Tryz.zeroValue4
 t5:=Tryz.underlying5
 a5:=Tryz.isAgg5
 z5:=Tryz.sizeOf5
 v5:=Tryz.zeroValue5
 t9:=Tryz.underlying9
 a9:=Tryz.isAgg9
 z9:=Tryz.sizeOf9
 v9:=Tryz.zeroValue9
 t20:=Tryz.underlying20
 a20:=Tryz.isAgg20
 z20:=Tryz.sizeOf20
 v20:=Tryz.zeroValue20
 t21:=Tryz.underlying21
 a21:=Tryz.isAgg21
 z21:=Tryz.sizeOf21
 v21:=Tryz.zeroValue21
 t37:=Tryz.underlying100
 a37:=Tryz.isAgg100
 z37:=Tryz.sizeOf100
 v37:=Tryz.zeroValue100
 t46:=Tryz.underlying143
 a46:=Tryz.isAgg143
 z46:=Tryz.sizeOf143
 v46:=Tryz.zeroValue143
 t51:=Tryz.underlying177
 a51:=Tryz.isAgg177
 z51:=Tryz.sizeOf177
 v51:=Tryz.zeroValue177
 t53:=Tryz.underlying169
 a53:=Tryz.isAgg169
 z53:=Tryz.sizeOf169
 v53:=Tryz.zeroValue169
 t75:=Tryz.underlying48
 a75:=Tryz.isAgg48
 z75:=Tryz.sizeOf48
 v75:=Tryz.zeroValue48
 t85:=Tryz.underlying165
 a85:=Tryz.isAgg165
 z85:=Tryz.sizeOf165
 v85:=Tryz.zeroValue165
 t127:=Tryz.underlying141
 a127:=Tryz.isAgg141
 z127:=Tryz.sizeOf141
 v127:=Tryz.zeroValue141
 t143:=Tryz.underlying237
 a143:=Tryz.isAgg237
 z143:=Tryz.sizeOf237
 v143:=Tryz.zeroValue237
 t145:=Tryz.underlying239
 a145:=Tryz.isAgg239
 z145:=Tryz.sizeOf239
 v145:=Tryz.zeroValue239
 t167:=Tryz.underlying209
 a167:=Tryz.isAgg209
 z167:=Tryz.sizeOf209
 v167:=Tryz.zeroValue209
 t168:=Tryz.underlying210
 a168:=Tryz.isAgg210
 z168:=Tryz.sizeOf210
 v168:=Tryz.zeroValue210
 t171:=Tryz.underlying168
 a171:=Tryz.isAgg168
 z171:=Tryz.sizeOf168
 v171:=Tryz.zeroValue168
 t173:=Tryz.underlying172
 a173:=Tryz.isAgg172
 z173:=Tryz.sizeOf172
 v173:=Tryz.zeroValue172
 t175:=Tryz.underlying186
 a175:=Tryz.isAgg186
 z175:=Tryz.sizeOf186
 v175:=Tryz.zeroValue186
 t210:=Tryz.underlying228
 a210:=Tryz.isAgg228
 z210:=Tryz.sizeOf228
 v210:=Tryz.zeroValue228
 t212:=Tryz.underlying189
 a212:=Tryz.isAgg189
 z212:=Tryz.sizeOf189
 v212:=Tryz.zeroValue189
 t213:=Tryz.underlying190
 a213:=Tryz.isAgg190
 z213:=Tryz.sizeOf190
 t232:=Tryz.underlying231
 a232:=Tryz.isAgg231
 z232:=Tryz.sizeOf231
 v232:=Tryz.zeroValue231
 t233:=Tryz.underlying232
 a233:=Tryz.isAgg232
 z233:=Tryz.sizeOf232
 v233:=Tryz.zeroValue232
 g15:=by kernel_rfl
 g16:=by kernel_rfl
 g17:=by kernel_rfl
 g18:=by kernel_rfl
 g19:=by kernel_rfl
 t80:=Tryz.underlying106
 a80:=Tryz.isAgg106
 z80:=Tryz.sizeOf106
 v80:=Tryz.zeroValue106
 i0:=by kernel_rfl
 i2:=by kernel_rfl
 i3:=by kernel_rfl
 i4:=by kernel_rfl
 i5:=by kernel_rfl
 i9:=by kernel_rfl
 i20:=by kernel_rfl
 i21:=by kernel_rfl
 i37:=by kernel_rfl
 i46:=by kernel_rfl
 i51:=by kernel_rfl
 i53:=by kernel_rfl
 i75:=by kernel_rfl
 i80:=by kernel_rfl
 i85:=by kernel_rfl
 i127:=by kernel_rfl
 i143:=by kernel_rfl
 i145:=by kernel_rfl
 i167:=by kernel_rfl
 i168:=by kernel_rfl
 i171:=by kernel_rfl
 i173:=by kernel_rfl
 i175:=by kernel_rfl
 i210:=by kernel_rfl
 i212:=by kernel_rfl
 i232:=by kernel_rfl
 i233:=by kernel_rfl
 m15:=by kernel_rfl
 m16:=by kernel_rfl
 m17:=by kernel_rfl
 m18:=by kernel_rfl
 m19:=by kernel_rfl
 c0:=by kernel_rfl
 c2:=by kernel_rfl
 c3:=by kernel_rfl
 c4:=by kernel_rfl
 c5:=by kernel_rfl
 c9:=by kernel_rfl
 c20:=by kernel_rfl
 c21:=by kernel_rfl
 c37:=by kernel_rfl
 c46:=by kernel_rfl
 c51:=by kernel_rfl
 c53:=by kernel_rfl
 c75:=by kernel_rfl
 c80:=by kernel_rfl
 c85:=by kernel_rfl
 c127:=by kernel_rfl
 c143:=by kernel_rfl
 c145:=by kernel_rfl
 c167:=by kernel_rfl
 c168:=by kernel_rfl
 c171:=by kernel_rfl
 c173:=by kernel_rfl
 c175:=by kernel_rfl
 c210:=by kernel_rfl
 c212:=by kernel_rfl
 c213:=by kernel_rfl
 c232:=by kernel_rfl
 c233:=by kernel_rfl }
open Go.RowKit in
theorem Tryz.strconv_ParseInt_10_at64_ok (s:ByteArray) (hmax:s.size≤9223372036854775806) (v:Int) (h:Lib.parseIntB 64 s.data.toList = .ok v) (w:World) :
  Calls Tryz.prog 127 #[.string s,.int .i64 10,.int .i64 64] w fun e w'=>e = .returned (.tuple #[.int .i64 v,.nilIface])∧(w'=w ∨ ∃ t,w'=Lib.bytesWorld w 5 t):=Any.strconv_ParseInt_10_at64_ok Tryz.laysC174 s hmax v h w
def Tryz.lays99_ren:Go.Shelf.Ren:=⟨fun | 99=>98 | 206=>125 | n=>n,fun | 9=>9 | 4=>4 | 3=>3 | n=>n,fun | n=>n⟩
theorem Tryz.lays99:Go.Proofs.Lays.n99 Tryz.prog Tryz.lays99_ren:={
 mixed:=by kernel_rfl
 f99:=Tryz.func98.trans (congrArg some (by kernel_rfl))
 f206:=Tryz.func125.trans (congrArg some (by kernel_rfl))
 t3:=Tryz.underlying3
 a3:=Tryz.isAgg3
 z3:=Tryz.sizeOf3
 v3:=Tryz.zeroValue3
 t4:=Tryz.underlying4
 a4:=Tryz.isAgg4
 z4:=Tryz.sizeOf4
 v4:=Tryz.zeroValue4
 t9:=Tryz.underlying9
 a9:=Tryz.isAgg9
 z9:=Tryz.sizeOf9
 v9:=Tryz.zeroValue9 }
open Go.RowKit Go.Lib in
theorem Tryz.strings_HasPrefix (s p:ByteArray) (w:World) :
  Calls Tryz.prog 98 #[.string s,.string p] w fun e w'=>e = .returned (.bool (Lib.hasPrefix s.data.toList p.data.toList))∧w'=w:=Any.strings_HasPrefix Tryz.lays99 s p w
open Go.RowKit in
theorem Tryz.strings_Trim (s cutset:ByteArray) (w:World) (hs:s.size≤9223372036854775807) (hcs:cutset.size<4294967281) (hascii : ∀ (j:Nat) b,cutset.data.toList[j]? = some b→b.toNat<128) :
  Calls Tryz.prog 156 #[.string s,.string cutset] w fun e w'=>e = .returned (.string ⟨(Lib.trimS s.data.toList cutset.data.toList).toArray⟩)∧Below w.heap.size w w':=Any.strings_Trim_laid Tryz.lays160 (by kernel_rfl) s cutset w hs hcs hascii
end
end Go.Proofs
namespace Go.Proofs.YtjjdmiaonkailaaGreatDoor
section
open Go.RowKit
def ScAt (W:World) (b:Nat) (x:Sc):Prop := ∃ cur:ByteArray,cur.data.toList=x.s∧Blk W b 96 #[.string cur,.int .i64 x.line,.bool x.nl]
theorem ScAt.below {W W':World} {b:Nat} {x:Sc} (h:ScAt W b x) (hb:Below W.heap.size W W'):ScAt W' b x:=by
 obtain ⟨cur,h1,h2⟩:=h
 exact ⟨cur,h1,h2.keep (hb.block _ h2.lt)⟩
theorem extract_take (s:ByteArray) (n:Nat):(s.extract 0 n).data.toList=s.data.toList.take n:=by simp
theorem size_len (s:ByteArray):s.size=s.data.toList.length:=by simp
theorem extract_drop (s:ByteArray) (n:Nat):(s.extract n s.size).data.toList=s.data.toList.drop n:=by
 have:(s.data.toList.drop n).length≤s.size-n:=by rw [size_len];simp
 simp only [ByteArray.data_extract,Array.toList_extract,List.extract]
 exact List.take_of_length_le this
theorem sc_put {w:World} {b:Nat} {cur:ByteArray} {line line':Int} {nl nl':Bool} (hb:Blk w b 96 #[.string cur,.int .i64 line,.bool nl]) (cur':ByteArray) :
  Blk (((w.setCell ⟨b,1,none⟩ (.int .i64 line')).setCell ⟨b,2,none⟩ (.bool nl')).setCell ⟨b,0,none⟩ (.string cur')) b 96 #[.string cur',.int .i64 line',.bool nl'] ∧
  Turn (fun k=>k=b) w (((w.setCell ⟨b,1,none⟩ (.int .i64 line')).setCell ⟨b,2,none⟩ (.bool nl')).setCell ⟨b,0,none⟩ (.string cur')):=by
 refine ⟨?_,(((Turn.refl (fun k=>k=b) w).setCell (p:=⟨b,1,none⟩) (fun _=>rfl) _).setCell (p:=⟨b,2,none⟩) (fun _=>rfl) _).setCell (p:=⟨b,0,none⟩) (fun _=>rfl) _⟩
 have h1:=((hb.set_ 1 (.int .i64 line')).set_ 2 (.bool nl')).set_ 0 (.string cur')
 simpa [Array.setIfInBounds] using h1
set_option maxRecDepth 100000 in
set_option maxHeartbeats 800000 in
theorem pass_calls (w:World) (b:Nat) (x:Sc) (n:Nat) (hx:ScAt w b x) (hn:n≤x.s.length) (hl:x.line+x.s.length≤1000000) :
  Calls Tryz.prog 63 #[.pointer (some ⟨b,0,none⟩),.int .i64 n] w fun e w'=>(∃ v,e = .returned v)∧ScAt w' b (passF x n)∧Turn (fun k=>k=b) w w':=by
 obtain ⟨cur,hcur,hb⟩:=hx
 have hsz:cur.size=x.s.length:=by rw [size_len,hcur]
 have hns:n≤cur.size:=by omega
 have hcnt:(x.s.take n).count 10≤x.s.length:=Nat.le_trans List.count_le_length (by simp;omega)
 have HC:=Lib.hid (Tryz.strings_Count_one (cur.extract 0 n) 10)
 simp only [extract_take,hcur,Lib.countByte] at HC
 have c0:=hb.cell 0
 have c1:=hb.cell 1
 have c2:=hb.cell 2
 have f0:=hb.frozen 0
 have f1:=hb.frozen 1
 have f2:=hb.frozen 2
 have HB:=Lib.hid hb
 have hpass:passF x n=⟨x.s.drop n,x.line+(x.s.take n).count 10,x.nl||decide (0<(x.s.take n).count 10)⟩:=rfl
 have HP:=Lib.hid hpass
 generalize (x.s.take n).count 10=q at HC HP hcnt
 clear hpass hb
 go_enter Tryz.func63,Tryz.ntmps63
 go_wp2_with fail
 refine (HC.out w).mono ?_
 rintro e w' ⟨rfl,rfl⟩
 have HE:=Lib.hid (extract_drop cur n)
 clear hsz
 cases hnl:x.nl
 all_goals
  rw [hnl] at HB HP c2
  cases hq:decide (0<q)
  all_goals
   have hq':decide ((0:Int)<(q:Int))=decide (0<q):=by simp
   rw [hq] at hq'
   go_wp2
   go_end0
   rw [HP.out]
   refine ⟨⟨_,rfl⟩,⟨cur.extract n cur.size,by rw [HE.out,hcur],?_⟩,(sc_put HB.out _).2⟩
   simp only [hq,Int.natCast_add,Bool.true_or,Bool.false_or]
   exact (sc_put HB.out _).1
end
section
open Go.RowKit
theorem tw_le (p:UInt8→Bool) : ∀ l:List UInt8,(l.takeWhile p).length≤l.length
 | []=>Nat.le_refl _
 | c::l=>by
  have:=tw_le p l
  simp only [List.takeWhile]
  split
  ·simp only [List.length_cons];omega
  ·simp
theorem tw_take (p:UInt8→Bool) : ∀ l:List UInt8,l.take (l.takeWhile p).length=l.takeWhile p
 | []=>rfl
 | c::l=>by
  have:=tw_take p l
  simp only [List.takeWhile]
  split
  ·simp only [List.length_cons,List.take_succ_cons,this]
  ·simp
theorem tw_mem {p:UInt8→Bool} {b:UInt8} : ∀ {l:List UInt8},b ∈ l.takeWhile p→p b=true
 | [],h=>by simp at h
 | c::l,h=>by
  simp only [List.takeWhile] at h
  split at h
  ·rename_i hc
   rcases List.mem_cons.1 h with rfl | h
   ·exact hc
   ·exact tw_mem h
  ·simp at h
theorem tw_pos {p:UInt8→Bool} {c:UInt8} {l:List UInt8} (h:p c=true):0<((c::l).takeWhile p).length:=by
 simp [List.takeWhile,h]
theorem tw_stop {p:UInt8→Bool} (h:p 10=false) (r:List UInt8) : ∀ l:List UInt8,(l++10::r).takeWhile p=l.takeWhile p
 | []=>by simp [List.takeWhile,h]
 | c::l=>by
  have:=tw_stop h r l
  simp only [List.takeWhile,List.cons_append]
  split
  ·rw [this]
  ·rfl
theorem pre_stop (r:List UInt8) : ∀ (x l:List UInt8),(∀ b ∈ x,b≠10)→x.isPrefixOf (l++10::r)=x.isPrefixOf l
 | [],l,_=>by simp [List.isPrefixOf]
 | b::x,[],h=>by
  have:b≠10:=h b (List.mem_cons_self ..)
  simp [List.isPrefixOf,this]
 | b::x,c::l,h=>by
  have:=pre_stop r x l (fun b hb=>h b (List.mem_cons_of_mem _ hb))
  simp only [List.cons_append,List.isPrefixOf,this]
theorem pre_take : ∀ {x l:List UInt8},x.isPrefixOf l=true→l.take x.length=x∧x.length≤l.length
 | [],l,_=>by simp
 | b::x,[],h=>by simp [List.isPrefixOf] at h
 | b::x,c::l,h=>by
  simp only [List.isPrefixOf,Bool.and_eq_true,beq_iff_eq] at h
  obtain ⟨h1,h2⟩:=h
  have:=pre_take h2
  subst h1
  simp [this.1]
  omega
theorem take_app {l r:List UInt8} {n:Nat} (h:n≤l.length):(l++r).take n=l.take n:=List.take_append_of_le_length h
theorem drop_app {l r:List UInt8} {n:Nat} (h:n≤l.length):(l++r).drop n=l.drop n++r:=List.drop_append_of_le_length h
theorem escaped_le {r:List UInt8} {x:UInt8} {k:Nat} (h:escapedF r=some (x,k)):0<k∧k≤r.length ∧ ∀ b ∈ r.take k,b≠10:=by
 cases r with
 | nil=>simp [escapedF] at h
 | cons c r =>
  simp only [escapedF] at h
  split at h
  ·rename_i h1
   injection h with h
   injection h with h2 h3
   subst h3
   simp [h1]
  ·split at h
   ·rename_i h1
    injection h with h
    injection h with h2 h3
    subst h3
    simp [h1]
   ·split at h
    ·rename_i h1
     injection h with h
     injection h with h2 h3
     subst h3
     rcases h1 with h1 | h1 | h1 <;> simp [h1]
    ·split at h
     ·rename_i h1
      subst h1
      match r,h with
      | [],h=>simp at h
      | [a],h=>simp at h
      | a::b::r,h =>
       simp only at h
       split at h
       ·rename_i h2
        injection h with h
        injection h with h4 h3
        subst h3
        have ha:a≠10:=by rintro rfl;simp [hexB] at h2
        have hb:b≠10:=by rintro rfl;simp [hexB] at h2
        simp [ha,hb]
       ·cases h
     ·cases h
theorem escaped_stop (r:List UInt8) : ∀ l:List UInt8,escapedF (l++10::r)=escapedF l
 | []=>by simp [escapedF]
 | [c]=>by
  simp only [List.cons_append,List.nil_append,escapedF]
  cases r with
  | nil=>rfl
  | cons a r=>simp [hexB]
 | [c,a]=>by
  simp only [List.cons_append,List.nil_append,escapedF]
  simp [hexB]
 | c::a::b::l=>by simp only [List.cons_append,escapedF]
theorem quoted_le {q:UInt8} (hq:q≠10) : ∀ {f:Nat} {l a:List UInt8} {k:Nat},quotedF q f l=some (a,k)→0<k∧k≤l.length ∧ ∀ b ∈ l.take k,b≠10
 | 0,l,a,k,h=>by simp [quotedF] at h
 | f+1,[],a,k,h=>by simp [quotedF] at h
 | f+1,c::r,a,k,h=>by
  simp only [quotedF] at h
  split at h
  ·rename_i h1
   injection h with h
   injection h with h2 h3
   subst h3
   simp [h1,hq]
  ·split at h
   ·rename_i h1
    cases he:escapedF r with
    | none=>rw [he] at h;cases h
    | some p =>
     obtain ⟨x,e⟩:=p
     rw [he] at h
     simp only at h
     cases hn:quotedF q f (r.drop e) with
     | none=>rw [hn] at h;cases h
     | some p =>
      obtain ⟨y,k'⟩:=p
      rw [hn] at h
      simp only [Option.map_some,Option.some.injEq,Prod.mk.injEq] at h
      obtain ⟨_,rfl⟩:=h
      obtain ⟨g1,g2,g3⟩:=quoted_le hq hn
      obtain ⟨e1,e2,e3⟩:=escaped_le he
      rw [List.length_drop] at g2
      refine ⟨by omega,by simp only [List.length_cons];omega,?_⟩
      intro b hb
      rw [show k'+1+e=(e+k')+1 by omega,List.take_succ_cons,List.take_add] at hb
      rcases List.mem_cons.1 hb with rfl | hb
      ·rw [h1];decide
      ·rcases List.mem_append.1 hb with hb | hb
       ·exact e3 b hb
       ·exact g3 b hb
   ·split at h
    ·cases h
    ·rename_i h1
     cases hn:quotedF q f r with
     | none=>rw [hn] at h;cases h
     | some p =>
      obtain ⟨y,k'⟩:=p
      rw [hn] at h
      simp only [Option.map_some,Option.some.injEq,Prod.mk.injEq] at h
      obtain ⟨_,rfl⟩:=h
      obtain ⟨g1,g2,g3⟩:=quoted_le hq hn
      refine ⟨by omega,by simp only [List.length_cons];omega,?_⟩
      intro b hb
      rw [List.take_succ_cons] at hb
      rcases List.mem_cons.1 hb with rfl | hb
      ·rintro rfl
       exact h1 (.inl (by decide))
      ·exact g3 b hb
theorem quoted_stop {q:UInt8} (hq:q≠10) (r:List UInt8) : ∀ {f g:Nat} {l:List UInt8},l.length≤g→l.length<f→quotedF q f (l++10::r)=quotedF q g l
 | 0,_,_,_,h=>by omega
 | f+1,0,[],_,_=>by simp [quotedF,Ne.symm hq]
 | f+1,g+1,[],_,_=>by simp [quotedF,Ne.symm hq]
 | f+1,0,c::l,h,_=>by simp at h
 | f+1,g+1,c::l,h,h'=>by
  simp only [List.length_cons] at h h'
  simp only [List.cons_append,quotedF,escaped_stop]
  split
  ·rfl
  ·split
   ·cases he:escapedF l with
    | none=>rfl
    | some p =>
     obtain ⟨x,e⟩:=p
     obtain ⟨e1,e2,_⟩:=escaped_le he
     simp only
     rw [drop_app e2,quoted_stop hq r (f:=f) (g:=g) (l:=l.drop e) (by rw [List.length_drop];omega) (by rw [List.length_drop];omega)]
   ·split
    ·rfl
    ·rw [quoted_stop hq r (f:=f) (g:=g) (l:=l) (by omega) (by omega)]
theorem begins_of : ∀ {l:List (List UInt8)} {s:List UInt8},beginsF s l≠0 → ∃ x ∈ l,x.isPrefixOf s=true∧beginsF s l=x.length
 | [],s,h=>by simp [beginsF] at h
 | x::l,s,h=>by
  simp only [beginsF] at h ⊢
  split
  ·rename_i hx
   exact ⟨x,List.mem_cons_self ..,hx,rfl⟩
  ·rename_i hx
   rw [if_neg hx] at h
   obtain ⟨y,h1,h2,h3⟩:=begins_of h
   exact ⟨y,List.mem_cons_of_mem _ h1,h2,h3⟩
theorem begins_stop (r:List UInt8) (s:List UInt8) : ∀ {l:List (List UInt8)},(∀ x ∈ l,∀ b ∈ x,b≠10)→beginsF (s++10::r) l=beginsF s l
 | [],_=>rfl
 | x::l,h=>by
  simp only [beginsF]
  rw [pre_stop r x s (h x (List.mem_cons_self ..)),begins_stop r s (fun y hy=>h y (List.mem_cons_of_mem _ hy))]
theorem signs5_no : ∀ x ∈ signs5,∀ b ∈ x,b≠10:=by decide
theorem part_no {b:UInt8} (h:partB8 b=true):b≠10:=by rintro rfl;revert h;decide
theorem digit_no {b:UInt8} (h:digitB8 b=true):b≠10:=by rintro rfl;revert h;decide
theorem letter_part {b:UInt8} (h:letterB b=true):partB8 b=true:=by simp only [letterB] at h;simp [partB8,h]
theorem number_ok {c:UInt8} {s:List UInt8} (hd:digitB8 c=true) (h:(numberF (c::s)).2.2=0) :
  0<(numberF (c::s)).2.1∧(numberF (c::s)).2.1≤(c::s).length ∧ ∀ b ∈ (c::s).take (numberF (c::s)).2.1,b≠10:=by
 simp only [numberF] at h ⊢
 split at h
 ·simp at h
 ·split at h
  ·simp at h
  ·rename_i h1 h2
   rw [if_neg h1,if_neg h2]
   refine ⟨tw_pos hd,tw_le _ _,fun b hb => ?_⟩
   rw [tw_take] at hb
   exact digit_no (tw_mem hb)
theorem token_ok {s:List UInt8} (h:(tokenF s).2.2=0):0<(tokenF s).2.1∧(tokenF s).2.1≤s.length ∧ ∀ b ∈ s.take (tokenF s).2.1,b≠10:=by
 cases s with
 | nil=>simp [tokenF] at h
 | cons c r =>
  by_cases h1:letterB c
  ·simp only [tokenF,h1,if_true]
   refine ⟨tw_pos (letter_part h1),tw_le _ _,fun b hb => ?_⟩
   unfold namesB at hb
   rw [tw_take] at hb
   exact part_no (tw_mem hb)
  ·by_cases h2:digitB8 c
   ·simp only [tokenF,h1,h2,if_true,Bool.false_eq_true,if_false] at h ⊢
    exact number_ok h2 h
   ·by_cases h3:c=34∨c=39
    ·have hc:c≠10:=by rcases h3 with rfl | rfl <;> decide
     simp only [tokenF,h1,h2,h3,if_true,Bool.false_eq_true,if_false] at h ⊢
     cases hq:quotedF c r.length r with
     | none=>rw [hq] at h;simp at h
     | some p =>
      obtain ⟨a,k⟩:=p
      obtain ⟨g1,g2,g3⟩:=quoted_le hc hq
      simp only
      refine ⟨by omega,by simp only [List.length_cons];omega,fun b hb => ?_⟩
      rw [List.take_succ_cons] at hb
      rcases List.mem_cons.1 hb with rfl | hb
      ·exact hc
      ·exact g3 b hb
    ·by_cases h4:beginsF (c::r) signs5=0
     ·by_cases h5:signs1.contains c
      ·simp only [tokenF,h1,h2,h3,h4,h5,if_true,Bool.false_eq_true,if_false]
       refine ⟨by decide,by simp,fun b hb => ?_⟩
       simp only [List.take_succ_cons,List.take_zero,List.mem_singleton] at hb
       subst hb
       rintro rfl
       revert h5
       decide
      ·simp only [tokenF,h1,h2,h3,h4,h5,if_true,Bool.false_eq_true,if_false] at h
       exact absurd h (by decide)
     ·have e:tokenF (c::r)=(⟨5,(c::r).take (beginsF (c::r) signs5),0⟩,beginsF (c::r) signs5,0):=by
       simp only [tokenF,h1,h2,h3,h4,Bool.false_eq_true,if_false]
      obtain ⟨x,hx,hp,he⟩:=begins_of h4
      have ht:=pre_take hp
      rw [e]
      simp only
      rw [he] at h4 ⊢
      rw [ht.1]
      exact ⟨by omega,ht.2,signs5_no x hx⟩
theorem number_stop (r:List UInt8) (s:List UInt8):numberF (s++10::r)=numberF s:=by
 have e1:=tw_stop (p:=digitB8) (by decide) r s
 have e2:=tw_stop (p:=partB8) (by decide) r s
 have h1:=tw_le digitB8 s
 simp only [numberF,namesB,e1,e2]
 rw [drop_app h1,take_app h1,pre_stop r [46] _ (by decide)]
 cases s with
 | nil=>simp
 | cons c s=>simp
theorem token_stop (r:List UInt8) {s:List UInt8} (hs:s≠[]):tokenF (s++10::r)=tokenF s:=by
 cases s with
 | nil=>exact absurd rfl hs
 | cons c s =>
  have e2:=tw_stop (p:=partB8) (by decide) r (c::s)
  have h2:=tw_le partB8 (c::s)
  have e3:=number_stop r (c::s)
  have e4:=begins_stop r (c::s) signs5_no
  have h4:beginsF (c::s) signs5≤(c::s).length:=by
   by_cases h:beginsF (c::s) signs5=0
   ·omega
   ·obtain ⟨x,_,hp,he⟩:=begins_of h
    rw [he]
    exact (pre_take hp).2
  have e5:(c::s++10::r).take 1=(c::s).take 1:=by simp
  have e6:=take_app (r:=10::r) h2
  have e7:=take_app (r:=10::r) h4
  have e8:namesB (c::s++10::r)=namesB (c::s):=by unfold namesB;rw [e2]
  simp only [List.cons_append] at e3 e4 e5 e6 e7 e8 ⊢
  simp only [tokenF,e3,e4,e5,e7,e8]
  unfold namesB
  rw [e6]
  by_cases h3:c=34∨c=39
  ·have hc:c≠10:=by rcases h3 with rfl | rfl <;> decide
   rw [quoted_stop hc r (g:=s.length) (l:=s) (Nat.le_refl _) (by simp only [List.length_append,List.length_cons];omega)]
  ·simp only [h3,if_false]
theorem indexByte_stop (r:List UInt8) : ∀ l:List UInt8,Lib.indexByte (l++10::r) 10=if Lib.indexByte l 10<0 then (l.length:Int) else Lib.indexByte l 10
 | []=>by simp [Lib.indexByte]
 | c::l=>by
  have h:=indexByte_stop r l
  have h0:=Lib.indexByte_ge l 10
  simp only [List.cons_append,Lib.indexByte]
  by_cases hc:(c==10)=true
  ·simp [hc]
  ·simp only [hc,h]
   by_cases h1:Lib.indexByte l 10<0
   ·have h2:Lib.indexByte l 10 = -1:=by omega
    have h3:((l.length:Int) == -1)=false:=by simp
    simp [h2,h3]
   ·have h2:(Lib.indexByte l 10 == -1)=false:=by simp;omega
    have h3:¬ (Lib.indexByte l 10+1<0):=by omega
    simp [h1,h2,h3]
theorem index_stop (sub r:List UInt8) (hsub:sub≠[]) (hno : ∀ b ∈ sub,b≠10) : ∀ l:List UInt8,0≤Lib.index l sub→Lib.index (l++10::r) sub=Lib.index l sub
 | [],h=>by
  cases sub with
  | nil=>exact absurd rfl hsub
  | cons b sub=>simp [Lib.index] at h
 | c::l,h=>by
  have ih:=index_stop sub r hsub hno l
  have h0:=Lib.index_ge l sub
  have hp:=pre_stop r sub (c::l) hno
  simp only [List.cons_append] at hp
  simp only [List.cons_append,Lib.index,hp] at h ⊢
  by_cases h1:sub.isPrefixOf (c::l)=true
  ·simp [h1]
  ·simp only [h1] at h ⊢
   by_cases h2:(Lib.index l sub == -1)=true
   ·simp [h2] at h
   ·have h3:0≤Lib.index l sub:=by simp at h2;omega
    rw [ih h3]
theorem blank_stop (r:List UInt8) {s:List UInt8} (hs:s≠[]) (hb:blankN s≠none):blankN (s++10::r)=blankN s:=by
 cases s with
 | nil=>exact absurd rfl hs
 | cons c s =>
  have e1:=pre_stop r [47,47] (c::s) (by decide)
  have e2:=pre_stop r [47,42] (c::s) (by decide)
  have e3:=indexByte_stop r (c::s)
  have h0:=Lib.indexByte_ge (c::s) 10
  simp only [List.cons_append] at e1 e2 e3 ⊢
  simp only [blankN,e1,e2] at hb ⊢
  split
  ·rfl
  ·split
   ·rw [e3]
    by_cases h1:Lib.indexByte (c::s) 10<0
    ·have h2:¬ (((c::s).length:Int)<0):=by omega
     simp only [h1,if_true,if_neg h2,Int.toNat_natCast]
    ·simp only [h1,if_false]
   ·split
    ·rename_i h1 h2 h3
     rw [if_neg h1,if_neg h2,if_pos h3] at hb
     by_cases h4:Lib.index (s.drop 1) [42,47]<0
     ·rw [if_pos h4] at hb
      exact absurd rfl hb
     ·have h5:(s++10::r).drop 1=s.drop 1++10::r:=by
       cases s with
       | nil=>simp at h3
       | cons d s=>simp
      rw [h5,index_stop [42,47] r (by simp) (by decide) _ (by omega)]
    ·rfl
end
end Go.Proofs.YtjjdmiaonkailaaGreatDoor
