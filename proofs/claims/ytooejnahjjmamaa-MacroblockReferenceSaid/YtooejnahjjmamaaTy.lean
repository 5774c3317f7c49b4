/-
  The program's table of types, as facts for evaluation. Written by a program (gen_types.py). No condition.
-/
import Derived.Test.YtooejnahjjmamaaPmK
import Derived.Test.YtooejnahjjmamaaProg
import Derived.KernelRfl
namespace Go.Proofs.Ytooejnahjjmamaa.Ty
open Pm
theorem sz0 : szT Try.prog 0 = some 1 := by kernel_rfl
theorem by0 : byT Try.prog 0 = some 0 := by kernel_rfl
theorem sz1 : szT Try.prog 1 = some 1 := by kernel_rfl
theorem by1 : byT Try.prog 1 = some 8 := by kernel_rfl
theorem sz2 : szT Try.prog 2 = some 1 := by kernel_rfl
theorem by2 : byT Try.prog 2 = some 8 := by kernel_rfl
theorem zc2 : zcells Try.prog 2 = some (([.int .i64 0] : List PV)) := by kernel_rfl
theorem sz3 : szT Try.prog 3 = some 1 := by kernel_rfl
theorem by3 : byT Try.prog 3 = some 8 := by kernel_rfl
theorem zc3 : zcells Try.prog 3 = some (([.int .i64 0] : List PV)) := by kernel_rfl
theorem sz4 : szT Try.prog 4 = some 1 := by kernel_rfl
theorem by4 : byT Try.prog 4 = some 1 := by kernel_rfl
theorem zc4 : zcells Try.prog 4 = some (([.bool false] : List PV)) := by kernel_rfl
theorem sz5 : szT Try.prog 5 = some 1 := by kernel_rfl
theorem by5 : byT Try.prog 5 = some 1 := by kernel_rfl
theorem zc5 : zcells Try.prog 5 = some (([.int .u8 0] : List PV)) := by kernel_rfl
theorem sz6 : szT Try.prog 6 = some 1 := by kernel_rfl
theorem by6 : byT Try.prog 6 = some 1 := by kernel_rfl
theorem zc6 : zcells Try.prog 6 = some (([.int .u8 0] : List PV)) := by kernel_rfl
theorem sz7 : szT Try.prog 7 = some 4 := by kernel_rfl
theorem by7 : byT Try.prog 7 = some 24 := by kernel_rfl
theorem zc7 : zcells Try.prog 7 = some (([.int .i64 0, .int .i64 0, .bool false, .int .u8 0] : List PV)) := by kernel_rfl
theorem sz8 : szT Try.prog 8 = some 4 := by kernel_rfl
theorem by8 : byT Try.prog 8 = some 24 := by kernel_rfl
theorem zc8 : zcells Try.prog 8 = some (([.int .i64 0, .int .i64 0, .bool false, .int .u8 0] : List PV)) := by kernel_rfl
theorem sz9 : szT Try.prog 9 = some 1 := by kernel_rfl
theorem by9 : byT Try.prog 9 = some 16 := by kernel_rfl
theorem zc9 : zcells Try.prog 9 = some (([.str []] : List PV)) := by kernel_rfl
theorem sz10 : szT Try.prog 10 = some 1 := by kernel_rfl
theorem by10 : byT Try.prog 10 = some 16 := by kernel_rfl
theorem zc10 : zcells Try.prog 10 = some (([.str []] : List PV)) := by kernel_rfl
theorem sz11 : szT Try.prog 11 = some 1 := by kernel_rfl
theorem by11 : byT Try.prog 11 = some 16 := by kernel_rfl
theorem zc11 : zcells Try.prog 11 = some (([.str []] : List PV)) := by kernel_rfl
theorem sz12 : szT Try.prog 12 = some 1 := by kernel_rfl
theorem by12 : byT Try.prog 12 = some 8 := by kernel_rfl
theorem zc12 : zcells Try.prog 12 = some (([.int .u64 0] : List PV)) := by kernel_rfl
theorem sz13 : szT Try.prog 13 = some 2 := by kernel_rfl
theorem by13 : byT Try.prog 13 = some 24 := by kernel_rfl
theorem zc13 : zcells Try.prog 13 = some (([.str [], .int .u64 0] : List PV)) := by kernel_rfl
theorem sz14 : szT Try.prog 14 = some 2 := by kernel_rfl
theorem by14 : byT Try.prog 14 = some 24 := by kernel_rfl
theorem zc14 : zcells Try.prog 14 = some (([.str [], .int .u64 0] : List PV)) := by kernel_rfl
theorem sz15 : szT Try.prog 15 = some 1 := by kernel_rfl
theorem by15 : byT Try.prog 15 = some 8 := by kernel_rfl
theorem zc15 : zcells Try.prog 15 = some (([.nilp] : List PV)) := by kernel_rfl
theorem sz16 : szT Try.prog 16 = some 1 := by kernel_rfl
theorem by16 : byT Try.prog 16 = some 8 := by kernel_rfl
theorem zc16 : zcells Try.prog 16 = some (([.nilp] : List PV)) := by kernel_rfl
theorem sz17 : szT Try.prog 17 = some 1 := by kernel_rfl
theorem by17 : byT Try.prog 17 = some 8 := by kernel_rfl
theorem zc17 : zcells Try.prog 17 = some (([.nilp] : List PV)) := by kernel_rfl
theorem sz18 : szT Try.prog 18 = some 1 := by kernel_rfl
theorem by18 : byT Try.prog 18 = some 8 := by kernel_rfl
theorem zc18 : zcells Try.prog 18 = some (([.nilp] : List PV)) := by kernel_rfl
theorem sz19 : szT Try.prog 19 = some 1 := by kernel_rfl
theorem by19 : byT Try.prog 19 = some 8 := by kernel_rfl
theorem zc19 : zcells Try.prog 19 = some (([.nilp] : List PV)) := by kernel_rfl
theorem sz20 : szT Try.prog 20 = some 1 := by kernel_rfl
theorem by20 : byT Try.prog 20 = some 16 := by kernel_rfl
theorem sz21 : szT Try.prog 21 = some 1 := by kernel_rfl
theorem by21 : byT Try.prog 21 = some 4 := by kernel_rfl
theorem zc21 : zcells Try.prog 21 = some (([.int .i32 0] : List PV)) := by kernel_rfl
theorem sz22 : szT Try.prog 22 = some 4 := by kernel_rfl
theorem by22 : byT Try.prog 22 = some 24 := by kernel_rfl
theorem zc22 : zcells Try.prog 22 = some (([.int .i64 0, .int .i64 0, .bool false, .bool false] : List PV)) := by kernel_rfl
theorem sz23 : szT Try.prog 23 = some 4 := by kernel_rfl
theorem by23 : byT Try.prog 23 = some 24 := by kernel_rfl
theorem zc23 : zcells Try.prog 23 = some (([.int .i64 0, .int .i64 0, .bool false, .bool false] : List PV)) := by kernel_rfl
theorem sz24 : szT Try.prog 24 = some 1 := by kernel_rfl
theorem by24 : byT Try.prog 24 = some 24 := by kernel_rfl
theorem zc24 : zcells Try.prog 24 = some (([.slice [] 0 true] : List PV)) := by kernel_rfl
theorem sz25 : szT Try.prog 25 = some 5 := by kernel_rfl
theorem by25 : byT Try.prog 25 = some 88 := by kernel_rfl
theorem zc25 : zcells Try.prog 25 = some (([.int .i64 0, .int .i64 0, .slice [] 0 true, .slice [] 0 true, .slice [] 0 true] : List PV)) := by kernel_rfl
theorem sz26 : szT Try.prog 26 = some 5 := by kernel_rfl
theorem by26 : byT Try.prog 26 = some 88 := by kernel_rfl
theorem zc26 : zcells Try.prog 26 = some (([.int .i64 0, .int .i64 0, .slice [] 0 true, .slice [] 0 true, .slice [] 0 true] : List PV)) := by kernel_rfl
theorem sz27 : szT Try.prog 27 = some 15 := by kernel_rfl
theorem by27 : byT Try.prog 27 = some 264 := by kernel_rfl
theorem zc27 : zcells Try.prog 27 = some (([.int .i64 0, .int .i64 0, .slice [] 0 true, .slice [] 0 true, .slice [] 0 true, .int .i64 0, .int .i64 0, .slice [] 0 true, .slice [] 0 true, .slice [] 0 true, .int .i64 0, .int .i64 0, .slice [] 0 true, .slice [] 0 true, .slice [] 0 true] : List PV)) := by kernel_rfl
theorem sz28 : szT Try.prog 28 = some 15 := by kernel_rfl
theorem by28 : byT Try.prog 28 = some 264 := by kernel_rfl
theorem zc28 : zcells Try.prog 28 = some (([.int .i64 0, .int .i64 0, .slice [] 0 true, .slice [] 0 true, .slice [] 0 true, .int .i64 0, .int .i64 0, .slice [] 0 true, .slice [] 0 true, .slice [] 0 true, .int .i64 0, .int .i64 0, .slice [] 0 true, .slice [] 0 true, .slice [] 0 true] : List PV)) := by kernel_rfl
theorem sz29 : szT Try.prog 29 = some 1 := by kernel_rfl
theorem by29 : byT Try.prog 29 = some 8 := by kernel_rfl
theorem sz30 : szT Try.prog 30 = some 1 := by kernel_rfl
theorem by30 : byT Try.prog 30 = some 8 := by kernel_rfl
theorem zc30 : zcells Try.prog 30 = some (([.int .i64 0] : List PV)) := by kernel_rfl
theorem sz31 : szT Try.prog 31 = some 1 := by kernel_rfl
theorem by31 : byT Try.prog 31 = some 0 := by kernel_rfl
theorem sz32 : szT Try.prog 32 = some 1 := by kernel_rfl
theorem by32 : byT Try.prog 32 = some 8 := by kernel_rfl
theorem sz33 : szT Try.prog 33 = some 4 := by kernel_rfl
theorem by33 : byT Try.prog 33 = some 24 := by kernel_rfl
theorem zc33 : zcells Try.prog 33 = some (([.int .i64 0, .int .i64 0, .bool false, .bool false] : List PV)) := by kernel_rfl
theorem sz34 : szT Try.prog 34 = some 1 := by kernel_rfl
theorem by34 : byT Try.prog 34 = some 8 := by kernel_rfl
theorem sz35 : szT Try.prog 35 = some 1 := by kernel_rfl
theorem by35 : byT Try.prog 35 = some 8 := by kernel_rfl
theorem sz36 : szT Try.prog 36 = some 1 := by kernel_rfl
theorem by36 : byT Try.prog 36 = some 8 := by kernel_rfl
theorem sz37 : szT Try.prog 37 = some 1 := by kernel_rfl
theorem by37 : byT Try.prog 37 = some 8 := by kernel_rfl
theorem sz38 : szT Try.prog 38 = some 1 := by kernel_rfl
theorem by38 : byT Try.prog 38 = some 8 := by kernel_rfl
theorem sz39 : szT Try.prog 39 = some 1 := by kernel_rfl
theorem by39 : byT Try.prog 39 = some 8 := by kernel_rfl
theorem sz40 : szT Try.prog 40 = some 1 := by kernel_rfl
theorem by40 : byT Try.prog 40 = some 8 := by kernel_rfl
theorem sz41 : szT Try.prog 41 = some 1 := by kernel_rfl
theorem by41 : byT Try.prog 41 = some 8 := by kernel_rfl
theorem sz42 : szT Try.prog 42 = some 1 := by kernel_rfl
theorem by42 : byT Try.prog 42 = some 8 := by kernel_rfl
theorem sz43 : szT Try.prog 43 = some 1 := by kernel_rfl
theorem by43 : byT Try.prog 43 = some 8 := by kernel_rfl
theorem sz44 : szT Try.prog 44 = some 1 := by kernel_rfl
theorem by44 : byT Try.prog 44 = some 8 := by kernel_rfl
theorem zc44 : zcells Try.prog 44 = some (([.nilp] : List PV)) := by kernel_rfl
theorem sz45 : szT Try.prog 45 = some 1 := by kernel_rfl
theorem by45 : byT Try.prog 45 = some 8 := by kernel_rfl
theorem sz46 : szT Try.prog 46 = some 3 := by kernel_rfl
theorem by46 : byT Try.prog 46 = some 24 := by kernel_rfl
theorem zc46 : zcells Try.prog 46 = some (([.int .i64 0, .int .i64 0, .int .i64 0] : List PV)) := by kernel_rfl
theorem sz47 : szT Try.prog 47 = some 2 := by kernel_rfl
theorem by47 : byT Try.prog 47 = some 16 := by kernel_rfl
theorem zc47 : zcells Try.prog 47 = some (([.int .i64 0, .int .i64 0] : List PV)) := by kernel_rfl
theorem sz48 : szT Try.prog 48 = some 2 := by kernel_rfl
theorem by48 : byT Try.prog 48 = some 16 := by kernel_rfl
theorem zc48 : zcells Try.prog 48 = some (([.int .i64 0, .int .i64 0] : List PV)) := by kernel_rfl
theorem sz49 : szT Try.prog 49 = some 4 := by kernel_rfl
theorem by49 : byT Try.prog 49 = some 32 := by kernel_rfl
theorem zc49 : zcells Try.prog 49 = some (([.int .i64 0, .int .i64 0, .int .i64 0, .int .i64 0] : List PV)) := by kernel_rfl
theorem sz50 : szT Try.prog 50 = some 8 := by kernel_rfl
theorem by50 : byT Try.prog 50 = some 64 := by kernel_rfl
theorem zc50 : zcells Try.prog 50 = some (([.int .i64 0, .int .i64 0, .int .i64 0, .int .i64 0, .int .i64 0, .int .i64 0, .int .i64 0, .int .i64 0] : List PV)) := by kernel_rfl
theorem sz51 : szT Try.prog 51 = some 8 := by kernel_rfl
theorem by51 : byT Try.prog 51 = some 64 := by kernel_rfl
theorem zc51 : zcells Try.prog 51 = some (([.int .i64 0, .int .i64 0, .int .i64 0, .int .i64 0, .int .i64 0, .int .i64 0, .int .i64 0, .int .i64 0] : List PV)) := by kernel_rfl
theorem sz52 : szT Try.prog 52 = some 1 := by kernel_rfl
theorem by52 : byT Try.prog 52 = some 0 := by kernel_rfl
theorem sz53 : szT Try.prog 53 = some 1 := by kernel_rfl
theorem by53 : byT Try.prog 53 = some 8 := by kernel_rfl
theorem sz54 : szT Try.prog 54 = some 1 := by kernel_rfl
theorem by54 : byT Try.prog 54 = some 8 := by kernel_rfl
theorem sz55 : szT Try.prog 55 = some 2 := by kernel_rfl
theorem by55 : byT Try.prog 55 = some 2 := by kernel_rfl
theorem zc55 : zcells Try.prog 55 = some (([.bool false, .bool false] : List PV)) := by kernel_rfl
theorem sz56 : szT Try.prog 56 = some 8 := by kernel_rfl
theorem by56 : byT Try.prog 56 = some 64 := by kernel_rfl
theorem zc56 : zcells Try.prog 56 = some (([.int .i64 0, .int .i64 0, .int .i64 0, .int .i64 0, .int .i64 0, .int .i64 0, .int .i64 0, .int .i64 0] : List PV)) := by kernel_rfl
theorem sz57 : szT Try.prog 57 = some 2 := by kernel_rfl
theorem by57 : byT Try.prog 57 = some 16 := by kernel_rfl
theorem zc57 : zcells Try.prog 57 = some (([.int .i64 0, .int .i64 0] : List PV)) := by kernel_rfl
theorem sz58 : szT Try.prog 58 = some 4 := by kernel_rfl
theorem by58 : byT Try.prog 58 = some 32 := by kernel_rfl
theorem zc58 : zcells Try.prog 58 = some (([.int .i64 0, .int .i64 0, .int .i64 0, .int .i64 0] : List PV)) := by kernel_rfl
theorem sz59 : szT Try.prog 59 = some 6 := by kernel_rfl
theorem by59 : byT Try.prog 59 = some 6 := by kernel_rfl
theorem zc59 : zcells Try.prog 59 = some (([.bool false, .bool false, .bool false, .bool false, .bool false, .bool false] : List PV)) := by kernel_rfl
theorem sz60 : szT Try.prog 60 = some 64 := by kernel_rfl
theorem by60 : byT Try.prog 60 = some 512 := by kernel_rfl
theorem zc60 : zcells Try.prog 60 = some ((List.replicate 64 (PV.int .i64 0) : List PV)) := by kernel_rfl
theorem sz61 : szT Try.prog 61 = some 384 := by kernel_rfl
theorem by61 : byT Try.prog 61 = some 3072 := by kernel_rfl
theorem zc61 : zcells Try.prog 61 = some ((List.replicate 384 (PV.int .i64 0) : List PV)) := by kernel_rfl
theorem sz62 : szT Try.prog 62 = some 408 := by kernel_rfl
theorem by62 : byT Try.prog 62 = some 3200 := by kernel_rfl
theorem zc62 : zcells Try.prog 62 = some (([.int .i64 0, .bool false, .bool false, .bool false, .bool false] : List PV) ++ (List.replicate 13 (PV.int .i64 0) : List PV) ++ ([.bool false, .bool false, .bool false, .bool false, .bool false, .bool false] : List PV) ++ (List.replicate 384 (PV.int .i64 0) : List PV)) := by kernel_rfl
theorem sz63 : szT Try.prog 63 = some 408 := by kernel_rfl
theorem by63 : byT Try.prog 63 = some 3200 := by kernel_rfl
theorem zc63 : zcells Try.prog 63 = some (([.int .i64 0, .bool false, .bool false, .bool false, .bool false] : List PV) ++ (List.replicate 13 (PV.int .i64 0) : List PV) ++ ([.bool false, .bool false, .bool false, .bool false, .bool false, .bool false] : List PV) ++ (List.replicate 384 (PV.int .i64 0) : List PV)) := by kernel_rfl
theorem sz64 : szT Try.prog 64 = some 1 := by kernel_rfl
theorem by64 : byT Try.prog 64 = some 8 := by kernel_rfl
theorem sz65 : szT Try.prog 65 = some 1 := by kernel_rfl
theorem by65 : byT Try.prog 65 = some 8 := by kernel_rfl
theorem sz66 : szT Try.prog 66 = some 1 := by kernel_rfl
theorem by66 : byT Try.prog 66 = some 8 := by kernel_rfl
theorem sz67 : szT Try.prog 67 = some 1 := by kernel_rfl
theorem by67 : byT Try.prog 67 = some 8 := by kernel_rfl
theorem sz68 : szT Try.prog 68 = some 2 := by kernel_rfl
theorem by68 : byT Try.prog 68 = some 32 := by kernel_rfl
theorem zc68 : zcells Try.prog 68 = some (([.slice [] 0 true, .int .i64 0] : List PV)) := by kernel_rfl
theorem sz69 : szT Try.prog 69 = some 2 := by kernel_rfl
theorem by69 : byT Try.prog 69 = some 32 := by kernel_rfl
theorem zc69 : zcells Try.prog 69 = some (([.slice [] 0 true, .int .i64 0] : List PV)) := by kernel_rfl
theorem sz70 : szT Try.prog 70 = some 1 := by kernel_rfl
theorem by70 : byT Try.prog 70 = some 8 := by kernel_rfl
theorem sz71 : szT Try.prog 71 = some 1 := by kernel_rfl
theorem by71 : byT Try.prog 71 = some 8 := by kernel_rfl
theorem sz72 : szT Try.prog 72 = some 1 := by kernel_rfl
theorem by72 : byT Try.prog 72 = some 8 := by kernel_rfl
theorem zc72 : zcells Try.prog 72 = some (([.nilp] : List PV)) := by kernel_rfl
theorem sz73 : szT Try.prog 73 = some 14 := by kernel_rfl
theorem by73 : byT Try.prog 73 = some 104 := by kernel_rfl
theorem zc73 : zcells Try.prog 73 = some (([.int .i64 0, .int .i64 0, .int .i64 0, .int .i64 0, .int .i64 0, .int .i64 0, .int .i64 0, .int .i64 0, .nilp, .int .i64 0, .int .i64 0, .bool false, .bool false, .nilp] : List PV)) := by kernel_rfl
theorem sz74 : szT Try.prog 74 = some 14 := by kernel_rfl
theorem by74 : byT Try.prog 74 = some 104 := by kernel_rfl
theorem zc74 : zcells Try.prog 74 = some (([.int .i64 0, .int .i64 0, .int .i64 0, .int .i64 0, .int .i64 0, .int .i64 0, .int .i64 0, .int .i64 0, .nilp, .int .i64 0, .int .i64 0, .bool false, .bool false, .nilp] : List PV)) := by kernel_rfl
theorem sz75 : szT Try.prog 75 = some 1 := by kernel_rfl
theorem by75 : byT Try.prog 75 = some 8 := by kernel_rfl
theorem sz76 : szT Try.prog 76 = some 1 := by kernel_rfl
theorem by76 : byT Try.prog 76 = some 8 := by kernel_rfl
theorem zc76 : zcells Try.prog 76 = some (([.nilp] : List PV)) := by kernel_rfl
theorem sz77 : szT Try.prog 77 = some 1 := by kernel_rfl
theorem by77 : byT Try.prog 77 = some 24 := by kernel_rfl
theorem zc77 : zcells Try.prog 77 = some (([.slice [] 0 true] : List PV)) := by kernel_rfl
theorem sz78 : szT Try.prog 78 = some 1 := by kernel_rfl
theorem by78 : byT Try.prog 78 = some 8 := by kernel_rfl
theorem sz79 : szT Try.prog 79 = some 4 := by kernel_rfl
theorem by79 : byT Try.prog 79 = some 32 := by kernel_rfl
theorem zc79 : zcells Try.prog 79 = some (([.int .i64 0, .int .i64 0, .int .i64 0, .int .i64 0] : List PV)) := by kernel_rfl
theorem sz80 : szT Try.prog 80 = some 4 := by kernel_rfl
theorem by80 : byT Try.prog 80 = some 32 := by kernel_rfl
theorem zc80 : zcells Try.prog 80 = some (([.int .i64 0, .int .i64 0, .int .i64 0, .int .i64 0] : List PV)) := by kernel_rfl
theorem sz81 : szT Try.prog 81 = some 1 := by kernel_rfl
theorem by81 : byT Try.prog 81 = some 8 := by kernel_rfl
theorem sz82 : szT Try.prog 82 = some 1 := by kernel_rfl
theorem by82 : byT Try.prog 82 = some 8 := by kernel_rfl
theorem sz83 : szT Try.prog 83 = some 1 := by kernel_rfl
theorem by83 : byT Try.prog 83 = some 8 := by kernel_rfl
theorem sz84 : szT Try.prog 84 = some 1 := by kernel_rfl
theorem by84 : byT Try.prog 84 = some 8 := by kernel_rfl
theorem sz85 : szT Try.prog 85 = some 1 := by kernel_rfl
theorem by85 : byT Try.prog 85 = some 8 := by kernel_rfl
theorem sz86 : szT Try.prog 86 = some 1 := by kernel_rfl
theorem by86 : byT Try.prog 86 = some 8 := by kernel_rfl
theorem sz87 : szT Try.prog 87 = some 1 := by kernel_rfl
theorem by87 : byT Try.prog 87 = some 8 := by kernel_rfl
theorem sz88 : szT Try.prog 88 = some 1 := by kernel_rfl
theorem by88 : byT Try.prog 88 = some 8 := by kernel_rfl
theorem sz89 : szT Try.prog 89 = some 1 := by kernel_rfl
theorem by89 : byT Try.prog 89 = some 8 := by kernel_rfl
theorem sz90 : szT Try.prog 90 = some 1 := by kernel_rfl
theorem by90 : byT Try.prog 90 = some 8 := by kernel_rfl
theorem zc90 : zcells Try.prog 90 = some (([.nilp] : List PV)) := by kernel_rfl
theorem sz91 : szT Try.prog 91 = some 1 := by kernel_rfl
theorem by91 : byT Try.prog 91 = some 8 := by kernel_rfl
theorem sz92 : szT Try.prog 92 = some 1 := by kernel_rfl
theorem by92 : byT Try.prog 92 = some 8 := by kernel_rfl
theorem sz93 : szT Try.prog 93 = some 1 := by kernel_rfl
theorem by93 : byT Try.prog 93 = some 8 := by kernel_rfl
theorem sz94 : szT Try.prog 94 = some 1 := by kernel_rfl
theorem by94 : byT Try.prog 94 = some 8 := by kernel_rfl
theorem sz95 : szT Try.prog 95 = some 1 := by kernel_rfl
theorem by95 : byT Try.prog 95 = some 8 := by kernel_rfl
theorem zc95 : zcells Try.prog 95 = some (([.int .u64 0] : List PV)) := by kernel_rfl
theorem sz96 : szT Try.prog 96 = some 1 := by kernel_rfl
theorem by96 : byT Try.prog 96 = some 4 := by kernel_rfl
theorem zc96 : zcells Try.prog 96 = some (([.int .u32 0] : List PV)) := by kernel_rfl
theorem sz97 : szT Try.prog 97 = some 1 := by kernel_rfl
theorem by97 : byT Try.prog 97 = some 8 := by kernel_rfl
theorem sz98 : szT Try.prog 98 = some 1 := by kernel_rfl
theorem by98 : byT Try.prog 98 = some 8 := by kernel_rfl
theorem sz99 : szT Try.prog 99 = some 1 := by kernel_rfl
theorem by99 : byT Try.prog 99 = some 8 := by kernel_rfl
theorem sz100 : szT Try.prog 100 = some 1 := by kernel_rfl
theorem by100 : byT Try.prog 100 = some 8 := by kernel_rfl
theorem zc100 : zcells Try.prog 100 = some (([.int .u64 0] : List PV)) := by kernel_rfl
theorem sz101 : szT Try.prog 101 = some 1 := by kernel_rfl
theorem by101 : byT Try.prog 101 = some 24 := by kernel_rfl
theorem zc101 : zcells Try.prog 101 = some (([.slice [] 0 true] : List PV)) := by kernel_rfl
theorem sz102 : szT Try.prog 102 = some 1 := by kernel_rfl
theorem by102 : byT Try.prog 102 = some 8 := by kernel_rfl
theorem sz103 : szT Try.prog 103 = some 4 := by kernel_rfl
theorem by103 : byT Try.prog 103 = some 40 := by kernel_rfl
theorem zc103 : zcells Try.prog 103 = some (([.nilp, .nilp, .nilp, .str []] : List PV)) := by kernel_rfl
theorem sz104 : szT Try.prog 104 = some 4 := by kernel_rfl
theorem by104 : byT Try.prog 104 = some 40 := by kernel_rfl
theorem zc104 : zcells Try.prog 104 = some (([.nilp, .nilp, .nilp, .str []] : List PV)) := by kernel_rfl
theorem sz105 : szT Try.prog 105 = some 0 := by kernel_rfl
theorem by105 : byT Try.prog 105 = some 0 := by kernel_rfl
theorem zc105 : zcells Try.prog 105 = some (([] : List PV)) := by kernel_rfl
theorem sz106 : szT Try.prog 106 = some 0 := by kernel_rfl
theorem by106 : byT Try.prog 106 = some 0 := by kernel_rfl
theorem zc106 : zcells Try.prog 106 = some (([] : List PV)) := by kernel_rfl
theorem sz107 : szT Try.prog 107 = some 0 := by kernel_rfl
theorem by107 : byT Try.prog 107 = some 0 := by kernel_rfl
theorem zc107 : zcells Try.prog 107 = some (([] : List PV)) := by kernel_rfl
theorem sz108 : szT Try.prog 108 = some 1 := by kernel_rfl
theorem by108 : byT Try.prog 108 = some 1 := by kernel_rfl
theorem zc108 : zcells Try.prog 108 = some (([.int .u8 0] : List PV)) := by kernel_rfl
theorem sz109 : szT Try.prog 109 = some 1 := by kernel_rfl
theorem by109 : byT Try.prog 109 = some 1 := by kernel_rfl
theorem zc109 : zcells Try.prog 109 = some (([.int .u8 0] : List PV)) := by kernel_rfl
theorem sz110 : szT Try.prog 110 = some 1 := by kernel_rfl
theorem by110 : byT Try.prog 110 = some 8 := by kernel_rfl
theorem sz111 : szT Try.prog 111 = some 1 := by kernel_rfl
theorem by111 : byT Try.prog 111 = some 8 := by kernel_rfl
theorem zc111 : zcells Try.prog 111 = some (([.nilp] : List PV)) := by kernel_rfl
theorem sz112 : szT Try.prog 112 = some 1 := by kernel_rfl
theorem by112 : byT Try.prog 112 = some 4 := by kernel_rfl
theorem zc112 : zcells Try.prog 112 = some (([.int .i32 0] : List PV)) := by kernel_rfl
theorem sz113 : szT Try.prog 113 = some 1 := by kernel_rfl
theorem by113 : byT Try.prog 113 = some 4 := by kernel_rfl
theorem zc113 : zcells Try.prog 113 = some (([.int .i32 0] : List PV)) := by kernel_rfl
theorem sz114 : szT Try.prog 114 = some 11 := by kernel_rfl
theorem by114 : byT Try.prog 114 = some 48 := by kernel_rfl
theorem sz115 : szT Try.prog 115 = some 11 := by kernel_rfl
theorem by115 : byT Try.prog 115 = some 48 := by kernel_rfl
theorem sz116 : szT Try.prog 116 = some 1 := by kernel_rfl
theorem by116 : byT Try.prog 116 = some 8 := by kernel_rfl
theorem zc116 : zcells Try.prog 116 = some (([.nilp] : List PV)) := by kernel_rfl
theorem mix : Try.prog.follows .mixedOrders = true := by kernel_rfl
attribute [go_sem] sz0 sz1 sz2 sz3 sz4 sz5 sz6 sz7 sz8 sz9 sz10 sz11 sz12 sz13 sz14 sz15 sz16 sz17 sz18 sz19 sz20 sz21 sz22 sz23 sz24 sz25 sz26 sz27 sz28 sz29 sz30 sz31 sz32 sz33 sz34 sz35 sz36 sz37 sz38 sz39
attribute [go_sem] sz40 sz41 sz42 sz43 sz44 sz45 sz46 sz47 sz48 sz49 sz50 sz51 sz52 sz53 sz54 sz55 sz56 sz57 sz58 sz59 sz60 sz61 sz62 sz63 sz64 sz65 sz66 sz67 sz68 sz69 sz70 sz71 sz72 sz73 sz74 sz75 sz76 sz77 sz78 sz79
attribute [go_sem] sz80 sz81 sz82 sz83 sz84 sz85 sz86 sz87 sz88 sz89 sz90 sz91 sz92 sz93 sz94 sz95 sz96 sz97 sz98 sz99 sz100 sz101 sz102 sz103 sz104 sz105 sz106 sz107 sz108 sz109 sz110 sz111 sz112 sz113 sz114 sz115 sz116 by0 by1 by2
attribute [go_sem] by3 by4 by5 by6 by7 by8 by9 by10 by11 by12 by13 by14 by15 by16 by17 by18 by19 by20 by21 by22 by23 by24 by25 by26 by27 by28 by29 by30 by31 by32 by33 by34 by35 by36 by37 by38 by39 by40 by41 by42
attribute [go_sem] by43 by44 by45 by46 by47 by48 by49 by50 by51 by52 by53 by54 by55 by56 by57 by58 by59 by60 by61 by62 by63 by64 by65 by66 by67 by68 by69 by70 by71 by72 by73 by74 by75 by76 by77 by78 by79 by80 by81 by82
attribute [go_sem] by83 by84 by85 by86 by87 by88 by89 by90 by91 by92 by93 by94 by95 by96 by97 by98 by99 by100 by101 by102 by103 by104 by105 by106 by107 by108 by109 by110 by111 by112 by113 by114 by115 by116 zc2 zc3 zc4 zc5 zc6 zc7
attribute [go_sem] zc8 zc9 zc10 zc11 zc12 zc13 zc14 zc15 zc16 zc17 zc18 zc19 zc21 zc22 zc23 zc24 zc25 zc26 zc27 zc28 zc30 zc33 zc44 zc46 zc47 zc48 zc49 zc50 zc51 zc55 zc56 zc57 zc58 zc59 zc60 zc61 zc62 zc63 zc68 zc69
attribute [go_sem] zc72 zc73 zc74 zc76 zc77 zc79 zc80 zc90 zc95 zc96 zc100 zc101 zc103 zc104 zc105 zc106 zc107 zc108 zc109 zc111 zc112 zc113 zc116 Try.underlying0 Try.underlying1 Try.underlying2 Try.underlying3 Try.underlying4 Try.underlying5 Try.underlying6 Try.underlying7 Try.underlying8 Try.underlying9 Try.underlying10 Try.underlying11 Try.underlying12 Try.underlying13 Try.underlying14 Try.underlying15 Try.underlying16
attribute [go_sem] Try.underlying17 Try.underlying18 Try.underlying19 Try.underlying20 Try.underlying21 Try.underlying22 Try.underlying23 Try.underlying24 Try.underlying25 Try.underlying26 Try.underlying27 Try.underlying28 Try.underlying29 Try.underlying30 Try.underlying31 Try.underlying32 Try.underlying33 Try.underlying34 Try.underlying35 Try.underlying36 Try.underlying37 Try.underlying38 Try.underlying39 Try.underlying40 Try.underlying41 Try.underlying42 Try.underlying43 Try.underlying44 Try.underlying45 Try.underlying46 Try.underlying47 Try.underlying48 Try.underlying49 Try.underlying50 Try.underlying51 Try.underlying52 Try.underlying53 Try.underlying54 Try.underlying55 Try.underlying56
attribute [go_sem] Try.underlying57 Try.underlying58 Try.underlying59 Try.underlying60 Try.underlying61 Try.underlying62 Try.underlying63 Try.underlying64 Try.underlying65 Try.underlying66 Try.underlying67 Try.underlying68 Try.underlying69 Try.underlying70 Try.underlying71 Try.underlying72 Try.underlying73 Try.underlying74 Try.underlying75 Try.underlying76 Try.underlying77 Try.underlying78 Try.underlying79 Try.underlying80 Try.underlying81 Try.underlying82 Try.underlying83 Try.underlying84 Try.underlying85 Try.underlying86 Try.underlying87 Try.underlying88 Try.underlying89 Try.underlying90 Try.underlying91 Try.underlying92 Try.underlying93 Try.underlying94 Try.underlying95 Try.underlying96
attribute [go_sem] Try.underlying97 Try.underlying98 Try.underlying99 Try.underlying100 Try.underlying101 Try.underlying102 Try.underlying103 Try.underlying104 Try.underlying105 Try.underlying106 Try.underlying107 Try.underlying108 Try.underlying109 Try.underlying110 Try.underlying111 Try.underlying112 Try.underlying113 Try.underlying114 Try.underlying115 Try.underlying116 Try.eqGuardType46 Try.eqGuardType49 Try.eqGuardType55 Try.eqGuardType56 Try.eqGuardType57 Try.eqGuardType58 Try.eqGuardType59 Try.eqGuardType60 Try.eqGuardType61 Try.eqGuardType105
end Go.Proofs.Ytooejnahjjmamaa.Ty
