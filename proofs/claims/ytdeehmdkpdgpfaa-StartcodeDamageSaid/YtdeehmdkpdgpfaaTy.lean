/-
  The program's table of types, as facts for evaluation. Written by a program (gen_types.py). No condition.
-/
import Derived.Test.YtdeehmdkpdgpfaaPmK
import Derived.Test.YtdeehmdkpdgpfaaProg
import Derived.KernelRfl
namespace Go.Proofs.Ytdeehmdkpdgpfaa.Ty
open Pm
theorem sz0 : szT Try.prog 0 = some 1 := by kernel_rfl
theorem by0 : byT Try.prog 0 = some 0 := by kernel_rfl
theorem sz1 : szT Try.prog 1 = some 1 := by kernel_rfl
theorem by1 : byT Try.prog 1 = some 8 := by kernel_rfl
theorem sz2 : szT Try.prog 2 = some 1 := by kernel_rfl
theorem by2 : byT Try.prog 2 = some 8 := by kernel_rfl
theorem zc2 : zcells Try.prog 2 = some (([.int .i64 0] : List PV)) := by kernel_rfl
theorem sz3 : szT Try.prog 3 = some 1 := by kernel_rfl
theorem by3 : byT Try.prog 3 = some 8 := by kernel_rfl
theorem zc3 : zcells Try.prog 3 = some (([.int .i64 0] : List PV)) := by kernel_rfl
theorem sz4 : szT Try.prog 4 = some 1 := by kernel_rfl
theorem by4 : byT Try.prog 4 = some 1 := by kernel_rfl
theorem zc4 : zcells Try.prog 4 = some (([.bool false] : List PV)) := by kernel_rfl
theorem sz5 : szT Try.prog 5 = some 1 := by kernel_rfl
theorem by5 : byT Try.prog 5 = some 1 := by kernel_rfl
theorem zc5 : zcells Try.prog 5 = some (([.int .u8 0] : List PV)) := by kernel_rfl
theorem sz6 : szT Try.prog 6 = some 1 := by kernel_rfl
theorem by6 : byT Try.prog 6 = some 1 := by kernel_rfl
theorem zc6 : zcells Try.prog 6 = some (([.int .u8 0] : List PV)) := by kernel_rfl
theorem sz7 : szT Try.prog 7 = some 4 := by kernel_rfl
theorem by7 : byT Try.prog 7 = some 24 := by kernel_rfl
theorem zc7 : zcells Try.prog 7 = some (([.int .i64 0, .int .i64 0, .bool false, .int .u8 0] : List PV)) := by kernel_rfl
theorem sz8 : szT Try.prog 8 = some 4 := by kernel_rfl
theorem by8 : byT Try.prog 8 = some 24 := by kernel_rfl
theorem zc8 : zcells Try.prog 8 = some (([.int .i64 0, .int .i64 0, .bool false, .int .u8 0] : List PV)) := by kernel_rfl
theorem sz9 : szT Try.prog 9 = some 1 := by kernel_rfl
theorem by9 : byT Try.prog 9 = some 16 := by kernel_rfl
theorem zc9 : zcells Try.prog 9 = some (([.str []] : List PV)) := by kernel_rfl
theorem sz10 : szT Try.prog 10 = some 1 := by kernel_rfl
theorem by10 : byT Try.prog 10 = some 16 := by kernel_rfl
theorem zc10 : zcells Try.prog 10 = some (([.str []] : List PV)) := by kernel_rfl
theorem sz11 : szT Try.prog 11 = some 1 := by kernel_rfl
theorem by11 : byT Try.prog 11 = some 16 := by kernel_rfl
theorem zc11 : zcells Try.prog 11 = some (([.str []] : List PV)) := by kernel_rfl
theorem sz12 : szT Try.prog 12 = some 1 := by kernel_rfl
theorem by12 : byT Try.prog 12 = some 8 := by kernel_rfl
theorem zc12 : zcells Try.prog 12 = some (([.int .u64 0] : List PV)) := by kernel_rfl
theorem sz13 : szT Try.prog 13 = some 2 := by kernel_rfl
theorem by13 : byT Try.prog 13 = some 24 := by kernel_rfl
theorem zc13 : zcells Try.prog 13 = some (([.str [], .int .u64 0] : List PV)) := by kernel_rfl
theorem sz14 : szT Try.prog 14 = some 2 := by kernel_rfl
theorem by14 : byT Try.prog 14 = some 24 := by kernel_rfl
theorem zc14 : zcells Try.prog 14 = some (([.str [], .int .u64 0] : List PV)) := by kernel_rfl
theorem sz15 : szT Try.prog 15 = some 1 := by kernel_rfl
theorem by15 : byT Try.prog 15 = some 8 := by kernel_rfl
theorem zc15 : zcells Try.prog 15 = some (([.nilp] : List PV)) := by kernel_rfl
theorem sz16 : szT Try.prog 16 = some 1 := by kernel_rfl
theorem by16 : byT Try.prog 16 = some 8 := by kernel_rfl
theorem zc16 : zcells Try.prog 16 = some (([.nilp] : List PV)) := by kernel_rfl
theorem sz17 : szT Try.prog 17 = some 1 := by kernel_rfl
theorem by17 : byT Try.prog 17 = some 8 := by kernel_rfl
theorem zc17 : zcells Try.prog 17 = some (([.nilp] : List PV)) := by kernel_rfl
theorem sz18 : szT Try.prog 18 = some 1 := by kernel_rfl
theorem by18 : byT Try.prog 18 = some 8 := by kernel_rfl
theorem zc18 : zcells Try.prog 18 = some (([.nilp] : List PV)) := by kernel_rfl
theorem sz19 : szT Try.prog 19 = some 1 := by kernel_rfl
theorem by19 : byT Try.prog 19 = some 8 := by kernel_rfl
theorem zc19 : zcells Try.prog 19 = some (([.nilp] : List PV)) := by kernel_rfl
theorem sz20 : szT Try.prog 20 = some 1 := by kernel_rfl
theorem by20 : byT Try.prog 20 = some 16 := by kernel_rfl
theorem sz21 : szT Try.prog 21 = some 1 := by kernel_rfl
theorem by21 : byT Try.prog 21 = some 4 := by kernel_rfl
theorem zc21 : zcells Try.prog 21 = some (([.int .i32 0] : List PV)) := by kernel_rfl
theorem sz22 : szT Try.prog 22 = some 1 := by kernel_rfl
theorem by22 : byT Try.prog 22 = some 24 := by kernel_rfl
theorem zc22 : zcells Try.prog 22 = some (([.slice [] 0 true] : List PV)) := by kernel_rfl
theorem sz23 : szT Try.prog 23 = some 2 := by kernel_rfl
theorem by23 : byT Try.prog 23 = some 32 := by kernel_rfl
theorem zc23 : zcells Try.prog 23 = some (([.int .i64 0, .slice [] 0 true] : List PV)) := by kernel_rfl
theorem sz24 : szT Try.prog 24 = some 2 := by kernel_rfl
theorem by24 : byT Try.prog 24 = some 32 := by kernel_rfl
theorem zc24 : zcells Try.prog 24 = some (([.int .i64 0, .slice [] 0 true] : List PV)) := by kernel_rfl
theorem sz25 : szT Try.prog 25 = some 1 := by kernel_rfl
theorem by25 : byT Try.prog 25 = some 8 := by kernel_rfl
theorem zc25 : zcells Try.prog 25 = some (([.int .i64 0] : List PV)) := by kernel_rfl
theorem sz26 : szT Try.prog 26 = some 1 := by kernel_rfl
theorem by26 : byT Try.prog 26 = some 0 := by kernel_rfl
theorem sz27 : szT Try.prog 27 = some 1 := by kernel_rfl
theorem by27 : byT Try.prog 27 = some 8 := by kernel_rfl
theorem sz28 : szT Try.prog 28 = some 1 := by kernel_rfl
theorem by28 : byT Try.prog 28 = some 8 := by kernel_rfl
theorem sz29 : szT Try.prog 29 = some 1 := by kernel_rfl
theorem by29 : byT Try.prog 29 = some 8 := by kernel_rfl
theorem sz30 : szT Try.prog 30 = some 1 := by kernel_rfl
theorem by30 : byT Try.prog 30 = some 8 := by kernel_rfl
theorem sz31 : szT Try.prog 31 = some 1 := by kernel_rfl
theorem by31 : byT Try.prog 31 = some 8 := by kernel_rfl
theorem sz32 : szT Try.prog 32 = some 1 := by kernel_rfl
theorem by32 : byT Try.prog 32 = some 24 := by kernel_rfl
theorem zc32 : zcells Try.prog 32 = some (([.slice [] 0 true] : List PV)) := by kernel_rfl
theorem sz33 : szT Try.prog 33 = some 1 := by kernel_rfl
theorem by33 : byT Try.prog 33 = some 8 := by kernel_rfl
theorem sz34 : szT Try.prog 34 = some 1 := by kernel_rfl
theorem by34 : byT Try.prog 34 = some 8 := by kernel_rfl
theorem sz35 : szT Try.prog 35 = some 1 := by kernel_rfl
theorem by35 : byT Try.prog 35 = some 24 := by kernel_rfl
theorem zc35 : zcells Try.prog 35 = some (([.slice [] 0 true] : List PV)) := by kernel_rfl
theorem sz36 : szT Try.prog 36 = some 1 := by kernel_rfl
theorem by36 : byT Try.prog 36 = some 24 := by kernel_rfl
theorem zc36 : zcells Try.prog 36 = some (([.slice [] 0 true] : List PV)) := by kernel_rfl
theorem sz37 : szT Try.prog 37 = some 1 := by kernel_rfl
theorem by37 : byT Try.prog 37 = some 0 := by kernel_rfl
theorem sz38 : szT Try.prog 38 = some 1 := by kernel_rfl
theorem by38 : byT Try.prog 38 = some 8 := by kernel_rfl
theorem sz39 : szT Try.prog 39 = some 1 := by kernel_rfl
theorem by39 : byT Try.prog 39 = some 24 := by kernel_rfl
theorem zc39 : zcells Try.prog 39 = some (([.slice [] 0 true] : List PV)) := by kernel_rfl
theorem sz40 : szT Try.prog 40 = some 1 := by kernel_rfl
theorem by40 : byT Try.prog 40 = some 24 := by kernel_rfl
theorem zc40 : zcells Try.prog 40 = some (([.slice [] 0 true] : List PV)) := by kernel_rfl
theorem sz41 : szT Try.prog 41 = some 1 := by kernel_rfl
theorem by41 : byT Try.prog 41 = some 0 := by kernel_rfl
theorem sz42 : szT Try.prog 42 = some 1 := by kernel_rfl
theorem by42 : byT Try.prog 42 = some 8 := by kernel_rfl
theorem sz43 : szT Try.prog 43 = some 1 := by kernel_rfl
theorem by43 : byT Try.prog 43 = some 8 := by kernel_rfl
theorem sz44 : szT Try.prog 44 = some 5 := by kernel_rfl
theorem by44 : byT Try.prog 44 = some 56 := by kernel_rfl
theorem zc44 : zcells Try.prog 44 = some (([.int .i64 0, .slice [] 0 true, .int .i64 0, .int .i64 0, .int .i64 0] : List PV)) := by kernel_rfl
theorem sz45 : szT Try.prog 45 = some 5 := by kernel_rfl
theorem by45 : byT Try.prog 45 = some 56 := by kernel_rfl
theorem zc45 : zcells Try.prog 45 = some (([.int .i64 0, .slice [] 0 true, .int .i64 0, .int .i64 0, .int .i64 0] : List PV)) := by kernel_rfl
theorem sz46 : szT Try.prog 46 = some 5 := by kernel_rfl
theorem by46 : byT Try.prog 46 = some 56 := by kernel_rfl
theorem zc46 : zcells Try.prog 46 = some (([.int .i64 0, .slice [] 0 true, .int .i64 0, .int .i64 0, .int .i64 0] : List PV)) := by kernel_rfl
theorem sz47 : szT Try.prog 47 = some 2 := by kernel_rfl
theorem by47 : byT Try.prog 47 = some 16 := by kernel_rfl
theorem zc47 : zcells Try.prog 47 = some (([.int .i64 0, .int .i64 0] : List PV)) := by kernel_rfl
theorem sz48 : szT Try.prog 48 = some 2 := by kernel_rfl
theorem by48 : byT Try.prog 48 = some 16 := by kernel_rfl
theorem zc48 : zcells Try.prog 48 = some (([.int .i64 0, .int .i64 0] : List PV)) := by kernel_rfl
theorem sz49 : szT Try.prog 49 = some 2 := by kernel_rfl
theorem by49 : byT Try.prog 49 = some 16 := by kernel_rfl
theorem zc49 : zcells Try.prog 49 = some (([.int .i64 0, .int .i64 0] : List PV)) := by kernel_rfl
theorem sz50 : szT Try.prog 50 = some 1 := by kernel_rfl
theorem by50 : byT Try.prog 50 = some 24 := by kernel_rfl
theorem zc50 : zcells Try.prog 50 = some (([.slice [] 0 true] : List PV)) := by kernel_rfl
theorem sz51 : szT Try.prog 51 = some 1 := by kernel_rfl
theorem by51 : byT Try.prog 51 = some 0 := by kernel_rfl
theorem sz52 : szT Try.prog 52 = some 1 := by kernel_rfl
theorem by52 : byT Try.prog 52 = some 8 := by kernel_rfl
theorem sz53 : szT Try.prog 53 = some 1 := by kernel_rfl
theorem by53 : byT Try.prog 53 = some 8 := by kernel_rfl
theorem sz54 : szT Try.prog 54 = some 1 := by kernel_rfl
theorem by54 : byT Try.prog 54 = some 8 := by kernel_rfl
theorem sz55 : szT Try.prog 55 = some 1 := by kernel_rfl
theorem by55 : byT Try.prog 55 = some 8 := by kernel_rfl
theorem sz56 : szT Try.prog 56 = some 1 := by kernel_rfl
theorem by56 : byT Try.prog 56 = some 8 := by kernel_rfl
theorem sz57 : szT Try.prog 57 = some 1 := by kernel_rfl
theorem by57 : byT Try.prog 57 = some 8 := by kernel_rfl
theorem sz58 : szT Try.prog 58 = some 1 := by kernel_rfl
theorem by58 : byT Try.prog 58 = some 8 := by kernel_rfl
theorem sz59 : szT Try.prog 59 = some 1 := by kernel_rfl
theorem by59 : byT Try.prog 59 = some 8 := by kernel_rfl
theorem sz60 : szT Try.prog 60 = some 1 := by kernel_rfl
theorem by60 : byT Try.prog 60 = some 8 := by kernel_rfl
theorem sz61 : szT Try.prog 61 = some 4 := by kernel_rfl
theorem by61 : byT Try.prog 61 = some 40 := by kernel_rfl
theorem zc61 : zcells Try.prog 61 = some (([.nilp, .nilp, .nilp, .str []] : List PV)) := by kernel_rfl
theorem sz62 : szT Try.prog 62 = some 4 := by kernel_rfl
theorem by62 : byT Try.prog 62 = some 40 := by kernel_rfl
theorem zc62 : zcells Try.prog 62 = some (([.nilp, .nilp, .nilp, .str []] : List PV)) := by kernel_rfl
theorem sz63 : szT Try.prog 63 = some 0 := by kernel_rfl
theorem by63 : byT Try.prog 63 = some 0 := by kernel_rfl
theorem zc63 : zcells Try.prog 63 = some (([] : List PV)) := by kernel_rfl
theorem sz64 : szT Try.prog 64 = some 0 := by kernel_rfl
theorem by64 : byT Try.prog 64 = some 0 := by kernel_rfl
theorem zc64 : zcells Try.prog 64 = some (([] : List PV)) := by kernel_rfl
theorem sz65 : szT Try.prog 65 = some 0 := by kernel_rfl
theorem by65 : byT Try.prog 65 = some 0 := by kernel_rfl
theorem zc65 : zcells Try.prog 65 = some (([] : List PV)) := by kernel_rfl
theorem sz66 : szT Try.prog 66 = some 1 := by kernel_rfl
theorem by66 : byT Try.prog 66 = some 8 := by kernel_rfl
theorem sz67 : szT Try.prog 67 = some 1 := by kernel_rfl
theorem by67 : byT Try.prog 67 = some 4 := by kernel_rfl
theorem zc67 : zcells Try.prog 67 = some (([.int .u32 0] : List PV)) := by kernel_rfl
theorem sz68 : szT Try.prog 68 = some 1 := by kernel_rfl
theorem by68 : byT Try.prog 68 = some 1 := by kernel_rfl
theorem zc68 : zcells Try.prog 68 = some (([.int .u8 0] : List PV)) := by kernel_rfl
theorem sz69 : szT Try.prog 69 = some 1 := by kernel_rfl
theorem by69 : byT Try.prog 69 = some 1 := by kernel_rfl
theorem zc69 : zcells Try.prog 69 = some (([.int .u8 0] : List PV)) := by kernel_rfl
theorem sz70 : szT Try.prog 70 = some 1 := by kernel_rfl
theorem by70 : byT Try.prog 70 = some 8 := by kernel_rfl
theorem sz71 : szT Try.prog 71 = some 1 := by kernel_rfl
theorem by71 : byT Try.prog 71 = some 8 := by kernel_rfl
theorem zc71 : zcells Try.prog 71 = some (([.nilp] : List PV)) := by kernel_rfl
theorem sz72 : szT Try.prog 72 = some 1 := by kernel_rfl
theorem by72 : byT Try.prog 72 = some 4 := by kernel_rfl
theorem zc72 : zcells Try.prog 72 = some (([.int .i32 0] : List PV)) := by kernel_rfl
theorem sz73 : szT Try.prog 73 = some 1 := by kernel_rfl
theorem by73 : byT Try.prog 73 = some 4 := by kernel_rfl
theorem zc73 : zcells Try.prog 73 = some (([.int .i32 0] : List PV)) := by kernel_rfl
theorem sz74 : szT Try.prog 74 = some 11 := by kernel_rfl
theorem by74 : byT Try.prog 74 = some 48 := by kernel_rfl
theorem sz75 : szT Try.prog 75 = some 11 := by kernel_rfl
theorem by75 : byT Try.prog 75 = some 48 := by kernel_rfl
theorem sz76 : szT Try.prog 76 = some 1 := by kernel_rfl
theorem by76 : byT Try.prog 76 = some 8 := by kernel_rfl
theorem zc76 : zcells Try.prog 76 = some (([.nilp] : List PV)) := by kernel_rfl
theorem mix : Try.prog.follows .mixedOrders = true := by kernel_rfl
attribute [go_sem] sz0 sz1 sz2 sz3 sz4 sz5 sz6 sz7 sz8 sz9 sz10 sz11 sz12 sz13 sz14 sz15 sz16 sz17 sz18 sz19 sz20 sz21 sz22 sz23 sz24 sz25 sz26 sz27 sz28 sz29 sz30 sz31 sz32 sz33 sz34 sz35 sz36 sz37 sz38 sz39
attribute [go_sem] sz40 sz41 sz42 sz43 sz44 sz45 sz46 sz47 sz48 sz49 sz50 sz51 sz52 sz53 sz54 sz55 sz56 sz57 sz58 sz59 sz60 sz61 sz62 sz63 sz64 sz65 sz66 sz67 sz68 sz69 sz70 sz71 sz72 sz73 sz74 sz75 sz76 by0 by1 by2
attribute [go_sem] by3 by4 by5 by6 by7 by8 by9 by10 by11 by12 by13 by14 by15 by16 by17 by18 by19 by20 by21 by22 by23 by24 by25 by26 by27 by28 by29 by30 by31 by32 by33 by34 by35 by36 by37 by38 by39 by40 by41 by42
attribute [go_sem] by43 by44 by45 by46 by47 by48 by49 by50 by51 by52 by53 by54 by55 by56 by57 by58 by59 by60 by61 by62 by63 by64 by65 by66 by67 by68 by69 by70 by71 by72 by73 by74 by75 by76 zc2 zc3 zc4 zc5 zc6 zc7
attribute [go_sem] zc8 zc9 zc10 zc11 zc12 zc13 zc14 zc15 zc16 zc17 zc18 zc19 zc21 zc22 zc23 zc24 zc25 zc32 zc35 zc36 zc39 zc40 zc44 zc45 zc46 zc47 zc48 zc49 zc50 zc61 zc62 zc63 zc64 zc65 zc67 zc68 zc69 zc71 zc72 zc73
attribute [go_sem] zc76 Try.underlying0 Try.underlying1 Try.underlying2 Try.underlying3 Try.underlying4 Try.underlying5 Try.underlying6 Try.underlying7 Try.underlying8 Try.underlying9 Try.underlying10 Try.underlying11 Try.underlying12 Try.underlying13 Try.underlying14 Try.underlying15 Try.underlying16 Try.underlying17 Try.underlying18 Try.underlying19 Try.underlying20 Try.underlying21 Try.underlying22 Try.underlying23 Try.underlying24 Try.underlying25 Try.underlying26 Try.underlying27 Try.underlying28 Try.underlying29 Try.underlying30 Try.underlying31 Try.underlying32 Try.underlying33 Try.underlying34 Try.underlying35 Try.underlying36 Try.underlying37 Try.underlying38
attribute [go_sem] Try.underlying39 Try.underlying40 Try.underlying41 Try.underlying42 Try.underlying43 Try.underlying44 Try.underlying45 Try.underlying46 Try.underlying47 Try.underlying48 Try.underlying49 Try.underlying50 Try.underlying51 Try.underlying52 Try.underlying53 Try.underlying54 Try.underlying55 Try.underlying56 Try.underlying57 Try.underlying58 Try.underlying59 Try.underlying60 Try.underlying61 Try.underlying62 Try.underlying63 Try.underlying64 Try.underlying65 Try.underlying66 Try.underlying67 Try.underlying68 Try.underlying69 Try.underlying70 Try.underlying71 Try.underlying72 Try.underlying73 Try.underlying74 Try.underlying75 Try.underlying76 Try.eqGuardType63
end Go.Proofs.Ytdeehmdkpdgpfaa.Ty
