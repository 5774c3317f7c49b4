/-
  The program's table of types, as facts for evaluation. Written by a program (gen_types.py). No condition.
-/
import Derived.Test.YtcabpncdgagihaaPmK
import Derived.Test.YtcabpncdgagihaaProg
import Derived.KernelRfl
namespace Go.Proofs.Ytcabpncdgagihaa.Ty
open Pm
theorem sz0 : szT Try.prog 0 = some 1 := by kernel_rfl
theorem by0 : byT Try.prog 0 = some 0 := by kernel_rfl
theorem sz1 : szT Try.prog 1 = some 1 := by kernel_rfl
theorem by1 : byT Try.prog 1 = some 8 := by kernel_rfl
theorem sz2 : szT Try.prog 2 = some 1 := by kernel_rfl
theorem by2 : byT Try.prog 2 = some 8 := by kernel_rfl
theorem zc2 : zcells Try.prog 2 = some (([.int .i64 0] : List PV)) := by kernel_rfl
theorem sz3 : szT Try.prog 3 = some 1 := by kernel_rfl
theorem by3 : byT Try.prog 3 = some 8 := by kernel_rfl
theorem zc3 : zcells Try.prog 3 = some (([.int .i64 0] : List PV)) := by kernel_rfl
theorem sz4 : szT Try.prog 4 = some 1 := by kernel_rfl
theorem by4 : byT Try.prog 4 = some 1 := by kernel_rfl
theorem zc4 : zcells Try.prog 4 = some (([.bool false] : List PV)) := by kernel_rfl
theorem sz5 : szT Try.prog 5 = some 1 := by kernel_rfl
theorem by5 : byT Try.prog 5 = some 1 := by kernel_rfl
theorem zc5 : zcells Try.prog 5 = some (([.int .u8 0] : List PV)) := by kernel_rfl
theorem sz6 : szT Try.prog 6 = some 1 := by kernel_rfl
theorem by6 : byT Try.prog 6 = some 1 := by kernel_rfl
theorem zc6 : zcells Try.prog 6 = some (([.int .u8 0] : List PV)) := by kernel_rfl
theorem sz7 : szT Try.prog 7 = some 4 := by kernel_rfl
theorem by7 : byT Try.prog 7 = some 24 := by kernel_rfl
theorem zc7 : zcells Try.prog 7 = some (([.int .i64 0, .int .i64 0, .bool false, .int .u8 0] : List PV)) := by kernel_rfl
theorem sz8 : szT Try.prog 8 = some 4 := by kernel_rfl
theorem by8 : byT Try.prog 8 = some 24 := by kernel_rfl
theorem zc8 : zcells Try.prog 8 = some (([.int .i64 0, .int .i64 0, .bool false, .int .u8 0] : List PV)) := by kernel_rfl
theorem sz9 : szT Try.prog 9 = some 1 := by kernel_rfl
theorem by9 : byT Try.prog 9 = some 16 := by kernel_rfl
theorem zc9 : zcells Try.prog 9 = some (([.str []] : List PV)) := by kernel_rfl
theorem sz10 : szT Try.prog 10 = some 1 := by kernel_rfl
theorem by10 : byT Try.prog 10 = some 16 := by kernel_rfl
theorem zc10 : zcells Try.prog 10 = some (([.str []] : List PV)) := by kernel_rfl
theorem sz11 : szT Try.prog 11 = some 1 := by kernel_rfl
theorem by11 : byT Try.prog 11 = some 16 := by kernel_rfl
theorem zc11 : zcells Try.prog 11 = some (([.str []] : List PV)) := by kernel_rfl
theorem sz12 : szT Try.prog 12 = some 1 := by kernel_rfl
theorem by12 : byT Try.prog 12 = some 8 := by kernel_rfl
theorem zc12 : zcells Try.prog 12 = some (([.int .u64 0] : List PV)) := by kernel_rfl
theorem sz13 : szT Try.prog 13 = some 2 := by kernel_rfl
theorem by13 : byT Try.prog 13 = some 24 := by kernel_rfl
theorem zc13 : zcells Try.prog 13 = some (([.str [], .int .u64 0] : List PV)) := by kernel_rfl
theorem sz14 : szT Try.prog 14 = some 2 := by kernel_rfl
theorem by14 : byT Try.prog 14 = some 24 := by kernel_rfl
theorem zc14 : zcells Try.prog 14 = some (([.str [], .int .u64 0] : List PV)) := by kernel_rfl
theorem sz15 : szT Try.prog 15 = some 1 := by kernel_rfl
theorem by15 : byT Try.prog 15 = some 8 := by kernel_rfl
theorem zc15 : zcells Try.prog 15 = some (([.nilp] : List PV)) := by kernel_rfl
theorem sz16 : szT Try.prog 16 = some 1 := by kernel_rfl
theorem by16 : byT Try.prog 16 = some 8 := by kernel_rfl
theorem zc16 : zcells Try.prog 16 = some (([.nilp] : List PV)) := by kernel_rfl
theorem sz17 : szT Try.prog 17 = some 1 := by kernel_rfl
theorem by17 : byT Try.prog 17 = some 8 := by kernel_rfl
theorem zc17 : zcells Try.prog 17 = some (([.nilp] : List PV)) := by kernel_rfl
theorem sz18 : szT Try.prog 18 = some 1 := by kernel_rfl
theorem by18 : byT Try.prog 18 = some 8 := by kernel_rfl
theorem zc18 : zcells Try.prog 18 = some (([.nilp] : List PV)) := by kernel_rfl
theorem sz19 : szT Try.prog 19 = some 1 := by kernel_rfl
theorem by19 : byT Try.prog 19 = some 8 := by kernel_rfl
theorem zc19 : zcells Try.prog 19 = some (([.nilp] : List PV)) := by kernel_rfl
theorem sz20 : szT Try.prog 20 = some 1 := by kernel_rfl
theorem by20 : byT Try.prog 20 = some 16 := by kernel_rfl
theorem sz21 : szT Try.prog 21 = some 1 := by kernel_rfl
theorem by21 : byT Try.prog 21 = some 4 := by kernel_rfl
theorem zc21 : zcells Try.prog 21 = some (([.int .i32 0] : List PV)) := by kernel_rfl
theorem sz22 : szT Try.prog 22 = some 4 := by kernel_rfl
theorem by22 : byT Try.prog 22 = some 24 := by kernel_rfl
theorem zc22 : zcells Try.prog 22 = some (([.int .i64 0, .int .i64 0, .bool false, .bool false] : List PV)) := by kernel_rfl
theorem sz23 : szT Try.prog 23 = some 4 := by kernel_rfl
theorem by23 : byT Try.prog 23 = some 24 := by kernel_rfl
theorem zc23 : zcells Try.prog 23 = some (([.int .i64 0, .int .i64 0, .bool false, .bool false] : List PV)) := by kernel_rfl
theorem sz24 : szT Try.prog 24 = some 3 := by kernel_rfl
theorem by24 : byT Try.prog 24 = some 24 := by kernel_rfl
theorem zc24 : zcells Try.prog 24 = some (([.int .i64 0, .int .i64 0, .int .i64 0] : List PV)) := by kernel_rfl
theorem sz25 : szT Try.prog 25 = some 2 := by kernel_rfl
theorem by25 : byT Try.prog 25 = some 16 := by kernel_rfl
theorem zc25 : zcells Try.prog 25 = some (([.int .i64 0, .int .i64 0] : List PV)) := by kernel_rfl
theorem sz26 : szT Try.prog 26 = some 2 := by kernel_rfl
theorem by26 : byT Try.prog 26 = some 16 := by kernel_rfl
theorem zc26 : zcells Try.prog 26 = some (([.int .i64 0, .int .i64 0] : List PV)) := by kernel_rfl
theorem sz27 : szT Try.prog 27 = some 4 := by kernel_rfl
theorem by27 : byT Try.prog 27 = some 32 := by kernel_rfl
theorem zc27 : zcells Try.prog 27 = some (([.int .i64 0, .int .i64 0, .int .i64 0, .int .i64 0] : List PV)) := by kernel_rfl
theorem sz28 : szT Try.prog 28 = some 8 := by kernel_rfl
theorem by28 : byT Try.prog 28 = some 64 := by kernel_rfl
theorem zc28 : zcells Try.prog 28 = some (([.int .i64 0, .int .i64 0, .int .i64 0, .int .i64 0, .int .i64 0, .int .i64 0, .int .i64 0, .int .i64 0] : List PV)) := by kernel_rfl
theorem sz29 : szT Try.prog 29 = some 8 := by kernel_rfl
theorem by29 : byT Try.prog 29 = some 64 := by kernel_rfl
theorem zc29 : zcells Try.prog 29 = some (([.int .i64 0, .int .i64 0, .int .i64 0, .int .i64 0, .int .i64 0, .int .i64 0, .int .i64 0, .int .i64 0] : List PV)) := by kernel_rfl
theorem sz30 : szT Try.prog 30 = some 1 := by kernel_rfl
theorem by30 : byT Try.prog 30 = some 24 := by kernel_rfl
theorem zc30 : zcells Try.prog 30 = some (([.slice [] 0 true] : List PV)) := by kernel_rfl
theorem sz31 : szT Try.prog 31 = some 1 := by kernel_rfl
theorem by31 : byT Try.prog 31 = some 8 := by kernel_rfl
theorem zc31 : zcells Try.prog 31 = some (([.nilp] : List PV)) := by kernel_rfl
theorem sz32 : szT Try.prog 32 = some 1 := by kernel_rfl
theorem by32 : byT Try.prog 32 = some 8 := by kernel_rfl
theorem sz33 : szT Try.prog 33 = some 1 := by kernel_rfl
theorem by33 : byT Try.prog 33 = some 24 := by kernel_rfl
theorem zc33 : zcells Try.prog 33 = some (([.slice [] 0 true] : List PV)) := by kernel_rfl
theorem sz34 : szT Try.prog 34 = some 8 := by kernel_rfl
theorem by34 : byT Try.prog 34 = some 64 := by kernel_rfl
theorem zc34 : zcells Try.prog 34 = some (([.int .i64 0, .int .i64 0, .int .i64 0, .int .i64 0, .int .i64 0, .int .i64 0, .int .i64 0, .int .i64 0] : List PV)) := by kernel_rfl
theorem sz35 : szT Try.prog 35 = some 1 := by kernel_rfl
theorem by35 : byT Try.prog 35 = some 8 := by kernel_rfl
theorem zc35 : zcells Try.prog 35 = some (([.int .i64 0] : List PV)) := by kernel_rfl
theorem sz36 : szT Try.prog 36 = some 1 := by kernel_rfl
theorem by36 : byT Try.prog 36 = some 0 := by kernel_rfl
theorem sz37 : szT Try.prog 37 = some 1 := by kernel_rfl
theorem by37 : byT Try.prog 37 = some 8 := by kernel_rfl
theorem sz38 : szT Try.prog 38 = some 4 := by kernel_rfl
theorem by38 : byT Try.prog 38 = some 24 := by kernel_rfl
theorem zc38 : zcells Try.prog 38 = some (([.int .i64 0, .int .i64 0, .bool false, .bool false] : List PV)) := by kernel_rfl
theorem sz39 : szT Try.prog 39 = some 1 := by kernel_rfl
theorem by39 : byT Try.prog 39 = some 8 := by kernel_rfl
theorem sz40 : szT Try.prog 40 = some 1 := by kernel_rfl
theorem by40 : byT Try.prog 40 = some 8 := by kernel_rfl
theorem sz41 : szT Try.prog 41 = some 2 := by kernel_rfl
theorem by41 : byT Try.prog 41 = some 2 := by kernel_rfl
theorem zc41 : zcells Try.prog 41 = some (([.bool false, .bool false] : List PV)) := by kernel_rfl
theorem sz42 : szT Try.prog 42 = some 8 := by kernel_rfl
theorem by42 : byT Try.prog 42 = some 64 := by kernel_rfl
theorem zc42 : zcells Try.prog 42 = some (([.int .i64 0, .int .i64 0, .int .i64 0, .int .i64 0, .int .i64 0, .int .i64 0, .int .i64 0, .int .i64 0] : List PV)) := by kernel_rfl
theorem sz43 : szT Try.prog 43 = some 2 := by kernel_rfl
theorem by43 : byT Try.prog 43 = some 16 := by kernel_rfl
theorem zc43 : zcells Try.prog 43 = some (([.int .i64 0, .int .i64 0] : List PV)) := by kernel_rfl
theorem sz44 : szT Try.prog 44 = some 4 := by kernel_rfl
theorem by44 : byT Try.prog 44 = some 32 := by kernel_rfl
theorem zc44 : zcells Try.prog 44 = some (([.int .i64 0, .int .i64 0, .int .i64 0, .int .i64 0] : List PV)) := by kernel_rfl
theorem sz45 : szT Try.prog 45 = some 6 := by kernel_rfl
theorem by45 : byT Try.prog 45 = some 6 := by kernel_rfl
theorem zc45 : zcells Try.prog 45 = some (([.bool false, .bool false, .bool false, .bool false, .bool false, .bool false] : List PV)) := by kernel_rfl
theorem sz46 : szT Try.prog 46 = some 64 := by kernel_rfl
theorem by46 : byT Try.prog 46 = some 512 := by kernel_rfl
theorem zc46 : zcells Try.prog 46 = some ((List.replicate 64 (PV.int .i64 0) : List PV)) := by kernel_rfl
theorem sz47 : szT Try.prog 47 = some 384 := by kernel_rfl
theorem by47 : byT Try.prog 47 = some 3072 := by kernel_rfl
theorem zc47 : zcells Try.prog 47 = some ((List.replicate 384 (PV.int .i64 0) : List PV)) := by kernel_rfl
theorem sz48 : szT Try.prog 48 = some 408 := by kernel_rfl
theorem by48 : byT Try.prog 48 = some 3200 := by kernel_rfl
theorem zc48 : zcells Try.prog 48 = some (([.int .i64 0, .bool false, .bool false, .bool false, .bool false] : List PV) ++ (List.replicate 13 (PV.int .i64 0) : List PV) ++ ([.bool false, .bool false, .bool false, .bool false, .bool false, .bool false] : List PV) ++ (List.replicate 384 (PV.int .i64 0) : List PV)) := by kernel_rfl
theorem sz49 : szT Try.prog 49 = some 408 := by kernel_rfl
theorem by49 : byT Try.prog 49 = some 3200 := by kernel_rfl
theorem zc49 : zcells Try.prog 49 = some (([.int .i64 0, .bool false, .bool false, .bool false, .bool false] : List PV) ++ (List.replicate 13 (PV.int .i64 0) : List PV) ++ ([.bool false, .bool false, .bool false, .bool false, .bool false, .bool false] : List PV) ++ (List.replicate 384 (PV.int .i64 0) : List PV)) := by kernel_rfl
theorem sz50 : szT Try.prog 50 = some 1 := by kernel_rfl
theorem by50 : byT Try.prog 50 = some 0 := by kernel_rfl
theorem sz51 : szT Try.prog 51 = some 1 := by kernel_rfl
theorem by51 : byT Try.prog 51 = some 8 := by kernel_rfl
theorem sz52 : szT Try.prog 52 = some 1 := by kernel_rfl
theorem by52 : byT Try.prog 52 = some 8 := by kernel_rfl
theorem sz53 : szT Try.prog 53 = some 1 := by kernel_rfl
theorem by53 : byT Try.prog 53 = some 8 := by kernel_rfl
theorem sz54 : szT Try.prog 54 = some 1 := by kernel_rfl
theorem by54 : byT Try.prog 54 = some 8 := by kernel_rfl
theorem sz55 : szT Try.prog 55 = some 1 := by kernel_rfl
theorem by55 : byT Try.prog 55 = some 8 := by kernel_rfl
theorem sz56 : szT Try.prog 56 = some 1 := by kernel_rfl
theorem by56 : byT Try.prog 56 = some 8 := by kernel_rfl
theorem sz57 : szT Try.prog 57 = some 1 := by kernel_rfl
theorem by57 : byT Try.prog 57 = some 8 := by kernel_rfl
theorem sz58 : szT Try.prog 58 = some 2 := by kernel_rfl
theorem by58 : byT Try.prog 58 = some 16 := by kernel_rfl
theorem zc58 : zcells Try.prog 58 = some (([.int .i64 0, .int .i64 0] : List PV)) := by kernel_rfl
theorem sz59 : szT Try.prog 59 = some 2 := by kernel_rfl
theorem by59 : byT Try.prog 59 = some 16 := by kernel_rfl
theorem zc59 : zcells Try.prog 59 = some (([.int .i64 0, .int .i64 0] : List PV)) := by kernel_rfl
theorem sz60 : szT Try.prog 60 = some 64 := by kernel_rfl
theorem by60 : byT Try.prog 60 = some 64 := by kernel_rfl
theorem zc60 : zcells Try.prog 60 = some ((List.replicate 64 (PV.int .u8 0) : List PV)) := by kernel_rfl
theorem sz61 : szT Try.prog 61 = some 135 := by kernel_rfl
theorem by61 : byT Try.prog 61 = some 184 := by kernel_rfl
theorem zc61 : zcells Try.prog 61 = some (([.int .i64 0, .int .i64 0, .int .i64 0, .int .i64 0, .bool false, .int .i64 0, .int .i64 0] : List PV) ++ (List.replicate 128 (PV.int .u8 0) : List PV)) := by kernel_rfl
theorem sz62 : szT Try.prog 62 = some 135 := by kernel_rfl
theorem by62 : byT Try.prog 62 = some 184 := by kernel_rfl
theorem zc62 : zcells Try.prog 62 = some (([.int .i64 0, .int .i64 0, .int .i64 0, .int .i64 0, .bool false, .int .i64 0, .int .i64 0] : List PV) ++ (List.replicate 128 (PV.int .u8 0) : List PV)) := by kernel_rfl
theorem sz63 : szT Try.prog 63 = some 6 := by kernel_rfl
theorem by63 : byT Try.prog 63 = some 32 := by kernel_rfl
theorem zc63 : zcells Try.prog 63 = some (([.int .i64 0, .int .i64 0, .int .i64 0, .bool false, .bool false, .bool false] : List PV)) := by kernel_rfl
theorem sz64 : szT Try.prog 64 = some 6 := by kernel_rfl
theorem by64 : byT Try.prog 64 = some 32 := by kernel_rfl
theorem zc64 : zcells Try.prog 64 = some (([.int .i64 0, .int .i64 0, .int .i64 0, .bool false, .bool false, .bool false] : List PV)) := by kernel_rfl
theorem sz65 : szT Try.prog 65 = some 1 := by kernel_rfl
theorem by65 : byT Try.prog 65 = some 24 := by kernel_rfl
theorem zc65 : zcells Try.prog 65 = some (([.slice [] 0 true] : List PV)) := by kernel_rfl
theorem sz66 : szT Try.prog 66 = some 1 := by kernel_rfl
theorem by66 : byT Try.prog 66 = some 24 := by kernel_rfl
theorem zc66 : zcells Try.prog 66 = some (([.slice [] 0 true] : List PV)) := by kernel_rfl
theorem sz67 : szT Try.prog 67 = some 8 := by kernel_rfl
theorem by67 : byT Try.prog 67 = some 80 := by kernel_rfl
theorem zc67 : zcells Try.prog 67 = some (([.int .i64 0, .int .i64 0, .int .i64 0, .bool false, .bool false, .bool false, .slice [] 0 true, .slice [] 0 true] : List PV)) := by kernel_rfl
theorem sz68 : szT Try.prog 68 = some 8 := by kernel_rfl
theorem by68 : byT Try.prog 68 = some 80 := by kernel_rfl
theorem zc68 : zcells Try.prog 68 = some (([.int .i64 0, .int .i64 0, .int .i64 0, .bool false, .bool false, .bool false, .slice [] 0 true, .slice [] 0 true] : List PV)) := by kernel_rfl
theorem sz69 : szT Try.prog 69 = some 1 := by kernel_rfl
theorem by69 : byT Try.prog 69 = some 8 := by kernel_rfl
theorem sz70 : szT Try.prog 70 = some 5 := by kernel_rfl
theorem by70 : byT Try.prog 70 = some 88 := by kernel_rfl
theorem zc70 : zcells Try.prog 70 = some (([.int .i64 0, .int .i64 0, .slice [] 0 true, .slice [] 0 true, .slice [] 0 true] : List PV)) := by kernel_rfl
theorem sz71 : szT Try.prog 71 = some 5 := by kernel_rfl
theorem by71 : byT Try.prog 71 = some 88 := by kernel_rfl
theorem zc71 : zcells Try.prog 71 = some (([.int .i64 0, .int .i64 0, .slice [] 0 true, .slice [] 0 true, .slice [] 0 true] : List PV)) := by kernel_rfl
theorem sz72 : szT Try.prog 72 = some 15 := by kernel_rfl
theorem by72 : byT Try.prog 72 = some 264 := by kernel_rfl
theorem zc72 : zcells Try.prog 72 = some (([.int .i64 0, .int .i64 0, .slice [] 0 true, .slice [] 0 true, .slice [] 0 true, .int .i64 0, .int .i64 0, .slice [] 0 true, .slice [] 0 true, .slice [] 0 true, .int .i64 0, .int .i64 0, .slice [] 0 true, .slice [] 0 true, .slice [] 0 true] : List PV)) := by kernel_rfl
theorem sz73 : szT Try.prog 73 = some 15 := by kernel_rfl
theorem by73 : byT Try.prog 73 = some 264 := by kernel_rfl
theorem zc73 : zcells Try.prog 73 = some (([.int .i64 0, .int .i64 0, .slice [] 0 true, .slice [] 0 true, .slice [] 0 true, .int .i64 0, .int .i64 0, .slice [] 0 true, .slice [] 0 true, .slice [] 0 true, .int .i64 0, .int .i64 0, .slice [] 0 true, .slice [] 0 true, .slice [] 0 true] : List PV)) := by kernel_rfl
theorem sz74 : szT Try.prog 74 = some 1 := by kernel_rfl
theorem by74 : byT Try.prog 74 = some 8 := by kernel_rfl
theorem sz75 : szT Try.prog 75 = some 1 := by kernel_rfl
theorem by75 : byT Try.prog 75 = some 8 := by kernel_rfl
theorem sz76 : szT Try.prog 76 = some 1 := by kernel_rfl
theorem by76 : byT Try.prog 76 = some 8 := by kernel_rfl
theorem sz77 : szT Try.prog 77 = some 1 := by kernel_rfl
theorem by77 : byT Try.prog 77 = some 8 := by kernel_rfl
theorem zc77 : zcells Try.prog 77 = some (([.nilp] : List PV)) := by kernel_rfl
theorem sz78 : szT Try.prog 78 = some 1 := by kernel_rfl
theorem by78 : byT Try.prog 78 = some 0 := by kernel_rfl
theorem sz79 : szT Try.prog 79 = some 1 := by kernel_rfl
theorem by79 : byT Try.prog 79 = some 8 := by kernel_rfl
theorem sz80 : szT Try.prog 80 = some 1 := by kernel_rfl
theorem by80 : byT Try.prog 80 = some 0 := by kernel_rfl
theorem sz81 : szT Try.prog 81 = some 1 := by kernel_rfl
theorem by81 : byT Try.prog 81 = some 8 := by kernel_rfl
theorem sz82 : szT Try.prog 82 = some 1 := by kernel_rfl
theorem by82 : byT Try.prog 82 = some 8 := by kernel_rfl
theorem sz83 : szT Try.prog 83 = some 2 := by kernel_rfl
theorem by83 : byT Try.prog 83 = some 32 := by kernel_rfl
theorem zc83 : zcells Try.prog 83 = some (([.slice [] 0 true, .int .i64 0] : List PV)) := by kernel_rfl
theorem sz84 : szT Try.prog 84 = some 2 := by kernel_rfl
theorem by84 : byT Try.prog 84 = some 32 := by kernel_rfl
theorem zc84 : zcells Try.prog 84 = some (([.slice [] 0 true, .int .i64 0] : List PV)) := by kernel_rfl
theorem sz85 : szT Try.prog 85 = some 1 := by kernel_rfl
theorem by85 : byT Try.prog 85 = some 8 := by kernel_rfl
theorem sz86 : szT Try.prog 86 = some 1 := by kernel_rfl
theorem by86 : byT Try.prog 86 = some 8 := by kernel_rfl
theorem sz87 : szT Try.prog 87 = some 1 := by kernel_rfl
theorem by87 : byT Try.prog 87 = some 8 := by kernel_rfl
theorem zc87 : zcells Try.prog 87 = some (([.nilp] : List PV)) := by kernel_rfl
theorem sz88 : szT Try.prog 88 = some 14 := by kernel_rfl
theorem by88 : byT Try.prog 88 = some 104 := by kernel_rfl
theorem zc88 : zcells Try.prog 88 = some (([.int .i64 0, .int .i64 0, .int .i64 0, .int .i64 0, .int .i64 0, .int .i64 0, .int .i64 0, .int .i64 0, .nilp, .int .i64 0, .int .i64 0, .bool false, .bool false, .nilp] : List PV)) := by kernel_rfl
theorem sz89 : szT Try.prog 89 = some 14 := by kernel_rfl
theorem by89 : byT Try.prog 89 = some 104 := by kernel_rfl
theorem zc89 : zcells Try.prog 89 = some (([.int .i64 0, .int .i64 0, .int .i64 0, .int .i64 0, .int .i64 0, .int .i64 0, .int .i64 0, .int .i64 0, .nilp, .int .i64 0, .int .i64 0, .bool false, .bool false, .nilp] : List PV)) := by kernel_rfl
theorem sz90 : szT Try.prog 90 = some 1 := by kernel_rfl
theorem by90 : byT Try.prog 90 = some 8 := by kernel_rfl
theorem sz91 : szT Try.prog 91 = some 1 := by kernel_rfl
theorem by91 : byT Try.prog 91 = some 8 := by kernel_rfl
theorem zc91 : zcells Try.prog 91 = some (([.nilp] : List PV)) := by kernel_rfl
theorem sz92 : szT Try.prog 92 = some 1 := by kernel_rfl
theorem by92 : byT Try.prog 92 = some 24 := by kernel_rfl
theorem zc92 : zcells Try.prog 92 = some (([.slice [] 0 true] : List PV)) := by kernel_rfl
theorem sz93 : szT Try.prog 93 = some 1 := by kernel_rfl
theorem by93 : byT Try.prog 93 = some 8 := by kernel_rfl
theorem sz94 : szT Try.prog 94 = some 1 := by kernel_rfl
theorem by94 : byT Try.prog 94 = some 8 := by kernel_rfl
theorem sz95 : szT Try.prog 95 = some 1 := by kernel_rfl
theorem by95 : byT Try.prog 95 = some 8 := by kernel_rfl
theorem sz96 : szT Try.prog 96 = some 1 := by kernel_rfl
theorem by96 : byT Try.prog 96 = some 8 := by kernel_rfl
theorem sz97 : szT Try.prog 97 = some 1 := by kernel_rfl
theorem by97 : byT Try.prog 97 = some 8 := by kernel_rfl
theorem sz98 : szT Try.prog 98 = some 1 := by kernel_rfl
theorem by98 : byT Try.prog 98 = some 8 := by kernel_rfl
theorem sz99 : szT Try.prog 99 = some 1 := by kernel_rfl
theorem by99 : byT Try.prog 99 = some 8 := by kernel_rfl
theorem sz100 : szT Try.prog 100 = some 1 := by kernel_rfl
theorem by100 : byT Try.prog 100 = some 8 := by kernel_rfl
theorem sz101 : szT Try.prog 101 = some 1 := by kernel_rfl
theorem by101 : byT Try.prog 101 = some 0 := by kernel_rfl
theorem sz102 : szT Try.prog 102 = some 1 := by kernel_rfl
theorem by102 : byT Try.prog 102 = some 8 := by kernel_rfl
theorem sz103 : szT Try.prog 103 = some 1 := by kernel_rfl
theorem by103 : byT Try.prog 103 = some 8 := by kernel_rfl
theorem zc103 : zcells Try.prog 103 = some (([.int .u64 0] : List PV)) := by kernel_rfl
theorem sz104 : szT Try.prog 104 = some 2 := by kernel_rfl
theorem by104 : byT Try.prog 104 = some 32 := by kernel_rfl
theorem zc104 : zcells Try.prog 104 = some (([.int .i64 0, .slice [] 0 true] : List PV)) := by kernel_rfl
theorem sz105 : szT Try.prog 105 = some 2 := by kernel_rfl
theorem by105 : byT Try.prog 105 = some 32 := by kernel_rfl
theorem zc105 : zcells Try.prog 105 = some (([.int .i64 0, .slice [] 0 true] : List PV)) := by kernel_rfl
theorem sz106 : szT Try.prog 106 = some 1 := by kernel_rfl
theorem by106 : byT Try.prog 106 = some 0 := by kernel_rfl
theorem sz107 : szT Try.prog 107 = some 1 := by kernel_rfl
theorem by107 : byT Try.prog 107 = some 8 := by kernel_rfl
theorem sz108 : szT Try.prog 108 = some 1 := by kernel_rfl
theorem by108 : byT Try.prog 108 = some 8 := by kernel_rfl
theorem sz109 : szT Try.prog 109 = some 1 := by kernel_rfl
theorem by109 : byT Try.prog 109 = some 8 := by kernel_rfl
theorem sz110 : szT Try.prog 110 = some 1 := by kernel_rfl
theorem by110 : byT Try.prog 110 = some 8 := by kernel_rfl
theorem sz111 : szT Try.prog 111 = some 1 := by kernel_rfl
theorem by111 : byT Try.prog 111 = some 8 := by kernel_rfl
theorem sz112 : szT Try.prog 112 = some 1 := by kernel_rfl
theorem by112 : byT Try.prog 112 = some 0 := by kernel_rfl
theorem sz113 : szT Try.prog 113 = some 1 := by kernel_rfl
theorem by113 : byT Try.prog 113 = some 8 := by kernel_rfl
theorem sz114 : szT Try.prog 114 = some 1 := by kernel_rfl
theorem by114 : byT Try.prog 114 = some 0 := by kernel_rfl
theorem sz115 : szT Try.prog 115 = some 1 := by kernel_rfl
theorem by115 : byT Try.prog 115 = some 8 := by kernel_rfl
theorem sz116 : szT Try.prog 116 = some 1 := by kernel_rfl
theorem by116 : byT Try.prog 116 = some 24 := by kernel_rfl
theorem zc116 : zcells Try.prog 116 = some (([.slice [] 0 true] : List PV)) := by kernel_rfl
theorem sz117 : szT Try.prog 117 = some 3 := by kernel_rfl
theorem by117 : byT Try.prog 117 = some 56 := by kernel_rfl
theorem zc117 : zcells Try.prog 117 = some (([.int .i64 0, .slice [] 0 true, .slice [] 0 true] : List PV)) := by kernel_rfl
theorem sz118 : szT Try.prog 118 = some 3 := by kernel_rfl
theorem by118 : byT Try.prog 118 = some 56 := by kernel_rfl
theorem zc118 : zcells Try.prog 118 = some (([.int .i64 0, .slice [] 0 true, .slice [] 0 true] : List PV)) := by kernel_rfl
theorem sz119 : szT Try.prog 119 = some 1 := by kernel_rfl
theorem by119 : byT Try.prog 119 = some 0 := by kernel_rfl
theorem sz120 : szT Try.prog 120 = some 1 := by kernel_rfl
theorem by120 : byT Try.prog 120 = some 8 := by kernel_rfl
theorem sz121 : szT Try.prog 121 = some 3 := by kernel_rfl
theorem by121 : byT Try.prog 121 = some 40 := by kernel_rfl
theorem zc121 : zcells Try.prog 121 = some (([.slice [] 0 true, .int .i64 0, .int .i64 0] : List PV)) := by kernel_rfl
theorem sz122 : szT Try.prog 122 = some 3 := by kernel_rfl
theorem by122 : byT Try.prog 122 = some 40 := by kernel_rfl
theorem zc122 : zcells Try.prog 122 = some (([.slice [] 0 true, .int .i64 0, .int .i64 0] : List PV)) := by kernel_rfl
theorem sz123 : szT Try.prog 123 = some 1 := by kernel_rfl
theorem by123 : byT Try.prog 123 = some 8 := by kernel_rfl
theorem sz124 : szT Try.prog 124 = some 1 := by kernel_rfl
theorem by124 : byT Try.prog 124 = some 8 := by kernel_rfl
theorem sz125 : szT Try.prog 125 = some 15 := by kernel_rfl
theorem by125 : byT Try.prog 125 = some 112 := by kernel_rfl
theorem zc125 : zcells Try.prog 125 = some (([.int .i64 0, .int .i64 0, .int .i64 0, .int .i64 0, .int .i64 0, .int .i64 0, .int .i64 0, .int .i64 0, .nilp, .int .i64 0, .int .i64 0, .bool false, .bool false, .nilp, .bool false] : List PV)) := by kernel_rfl
theorem sz126 : szT Try.prog 126 = some 15 := by kernel_rfl
theorem by126 : byT Try.prog 126 = some 112 := by kernel_rfl
theorem zc126 : zcells Try.prog 126 = some (([.int .i64 0, .int .i64 0, .int .i64 0, .int .i64 0, .int .i64 0, .int .i64 0, .int .i64 0, .int .i64 0, .nilp, .int .i64 0, .int .i64 0, .bool false, .bool false, .nilp, .bool false] : List PV)) := by kernel_rfl
theorem sz127 : szT Try.prog 127 = some 1 := by kernel_rfl
theorem by127 : byT Try.prog 127 = some 8 := by kernel_rfl
theorem sz128 : szT Try.prog 128 = some 1 := by kernel_rfl
theorem by128 : byT Try.prog 128 = some 8 := by kernel_rfl
theorem sz129 : szT Try.prog 129 = some 1 := by kernel_rfl
theorem by129 : byT Try.prog 129 = some 8 := by kernel_rfl
theorem zc129 : zcells Try.prog 129 = some (([.nilp] : List PV)) := by kernel_rfl
theorem sz130 : szT Try.prog 130 = some 1 := by kernel_rfl
theorem by130 : byT Try.prog 130 = some 24 := by kernel_rfl
theorem zc130 : zcells Try.prog 130 = some (([.slice [] 0 true] : List PV)) := by kernel_rfl
theorem sz131 : szT Try.prog 131 = some 1 := by kernel_rfl
theorem by131 : byT Try.prog 131 = some 8 := by kernel_rfl
theorem sz132 : szT Try.prog 132 = some 1 := by kernel_rfl
theorem by132 : byT Try.prog 132 = some 8 := by kernel_rfl
theorem sz133 : szT Try.prog 133 = some 1 := by kernel_rfl
theorem by133 : byT Try.prog 133 = some 8 := by kernel_rfl
theorem sz134 : szT Try.prog 134 = some 1 := by kernel_rfl
theorem by134 : byT Try.prog 134 = some 8 := by kernel_rfl
theorem sz135 : szT Try.prog 135 = some 1 := by kernel_rfl
theorem by135 : byT Try.prog 135 = some 8 := by kernel_rfl
theorem sz136 : szT Try.prog 136 = some 1 := by kernel_rfl
theorem by136 : byT Try.prog 136 = some 8 := by kernel_rfl
theorem sz137 : szT Try.prog 137 = some 1 := by kernel_rfl
theorem by137 : byT Try.prog 137 = some 8 := by kernel_rfl
theorem sz138 : szT Try.prog 138 = some 1 := by kernel_rfl
theorem by138 : byT Try.prog 138 = some 8 := by kernel_rfl
theorem sz139 : szT Try.prog 139 = some 1 := by kernel_rfl
theorem by139 : byT Try.prog 139 = some 8 := by kernel_rfl
theorem sz140 : szT Try.prog 140 = some 1 := by kernel_rfl
theorem by140 : byT Try.prog 140 = some 8 := by kernel_rfl
theorem zc140 : zcells Try.prog 140 = some (([.nilp] : List PV)) := by kernel_rfl
theorem sz141 : szT Try.prog 141 = some 1 := by kernel_rfl
theorem by141 : byT Try.prog 141 = some 8 := by kernel_rfl
theorem sz142 : szT Try.prog 142 = some 1 := by kernel_rfl
theorem by142 : byT Try.prog 142 = some 4 := by kernel_rfl
theorem zc142 : zcells Try.prog 142 = some (([.int .u32 0] : List PV)) := by kernel_rfl
theorem sz143 : szT Try.prog 143 = some 1 := by kernel_rfl
theorem by143 : byT Try.prog 143 = some 8 := by kernel_rfl
theorem sz144 : szT Try.prog 144 = some 1 := by kernel_rfl
theorem by144 : byT Try.prog 144 = some 8 := by kernel_rfl
theorem sz145 : szT Try.prog 145 = some 1 := by kernel_rfl
theorem by145 : byT Try.prog 145 = some 24 := by kernel_rfl
theorem zc145 : zcells Try.prog 145 = some (([.slice [] 0 true] : List PV)) := by kernel_rfl
theorem sz146 : szT Try.prog 146 = some 1 := by kernel_rfl
theorem by146 : byT Try.prog 146 = some 8 := by kernel_rfl
theorem sz147 : szT Try.prog 147 = some 1 := by kernel_rfl
theorem by147 : byT Try.prog 147 = some 0 := by kernel_rfl
theorem sz148 : szT Try.prog 148 = some 1 := by kernel_rfl
theorem by148 : byT Try.prog 148 = some 0 := by kernel_rfl
theorem sz149 : szT Try.prog 149 = some 1 := by kernel_rfl
theorem by149 : byT Try.prog 149 = some 8 := by kernel_rfl
theorem sz150 : szT Try.prog 150 = some 1 := by kernel_rfl
theorem by150 : byT Try.prog 150 = some 8 := by kernel_rfl
theorem sz151 : szT Try.prog 151 = some 1 := by kernel_rfl
theorem by151 : byT Try.prog 151 = some 0 := by kernel_rfl
theorem sz152 : szT Try.prog 152 = some 1 := by kernel_rfl
theorem by152 : byT Try.prog 152 = some 8 := by kernel_rfl
theorem sz153 : szT Try.prog 153 = some 1 := by kernel_rfl
theorem by153 : byT Try.prog 153 = some 0 := by kernel_rfl
theorem sz154 : szT Try.prog 154 = some 1 := by kernel_rfl
theorem by154 : byT Try.prog 154 = some 8 := by kernel_rfl
theorem sz155 : szT Try.prog 155 = some 1 := by kernel_rfl
theorem by155 : byT Try.prog 155 = some 0 := by kernel_rfl
theorem sz156 : szT Try.prog 156 = some 1 := by kernel_rfl
theorem by156 : byT Try.prog 156 = some 8 := by kernel_rfl
theorem sz157 : szT Try.prog 157 = some 1 := by kernel_rfl
theorem by157 : byT Try.prog 157 = some 8 := by kernel_rfl
theorem sz158 : szT Try.prog 158 = some 1 := by kernel_rfl
theorem by158 : byT Try.prog 158 = some 8 := by kernel_rfl
theorem zc158 : zcells Try.prog 158 = some (([.nilp] : List PV)) := by kernel_rfl
theorem sz159 : szT Try.prog 159 = some 1 := by kernel_rfl
theorem by159 : byT Try.prog 159 = some 0 := by kernel_rfl
theorem sz160 : szT Try.prog 160 = some 1 := by kernel_rfl
theorem by160 : byT Try.prog 160 = some 8 := by kernel_rfl
theorem sz161 : szT Try.prog 161 = some 1 := by kernel_rfl
theorem by161 : byT Try.prog 161 = some 8 := by kernel_rfl
theorem sz162 : szT Try.prog 162 = some 1 := by kernel_rfl
theorem by162 : byT Try.prog 162 = some 8 := by kernel_rfl
theorem sz163 : szT Try.prog 163 = some 1 := by kernel_rfl
theorem by163 : byT Try.prog 163 = some 8 := by kernel_rfl
theorem sz164 : szT Try.prog 164 = some 1 := by kernel_rfl
theorem by164 : byT Try.prog 164 = some 8 := by kernel_rfl
theorem sz165 : szT Try.prog 165 = some 1 := by kernel_rfl
theorem by165 : byT Try.prog 165 = some 8 := by kernel_rfl
theorem sz166 : szT Try.prog 166 = some 1 := by kernel_rfl
theorem by166 : byT Try.prog 166 = some 8 := by kernel_rfl
theorem sz167 : szT Try.prog 167 = some 1 := by kernel_rfl
theorem by167 : byT Try.prog 167 = some 8 := by kernel_rfl
theorem zc167 : zcells Try.prog 167 = some (([.nilp] : List PV)) := by kernel_rfl
theorem sz168 : szT Try.prog 168 = some 1 := by kernel_rfl
theorem by168 : byT Try.prog 168 = some 0 := by kernel_rfl
theorem sz169 : szT Try.prog 169 = some 1 := by kernel_rfl
theorem by169 : byT Try.prog 169 = some 8 := by kernel_rfl
theorem sz170 : szT Try.prog 170 = some 1 := by kernel_rfl
theorem by170 : byT Try.prog 170 = some 0 := by kernel_rfl
theorem sz171 : szT Try.prog 171 = some 1 := by kernel_rfl
theorem by171 : byT Try.prog 171 = some 8 := by kernel_rfl
theorem sz172 : szT Try.prog 172 = some 1 := by kernel_rfl
theorem by172 : byT Try.prog 172 = some 8 := by kernel_rfl
theorem sz173 : szT Try.prog 173 = some 1 := by kernel_rfl
theorem by173 : byT Try.prog 173 = some 8 := by kernel_rfl
theorem zc173 : zcells Try.prog 173 = some (([.nilp] : List PV)) := by kernel_rfl
theorem sz174 : szT Try.prog 174 = some 1 := by kernel_rfl
theorem by174 : byT Try.prog 174 = some 8 := by kernel_rfl
theorem zc174 : zcells Try.prog 174 = some (([.int .i64 0] : List PV)) := by kernel_rfl
theorem sz175 : szT Try.prog 175 = some 1 := by kernel_rfl
theorem by175 : byT Try.prog 175 = some 8 := by kernel_rfl
theorem zc175 : zcells Try.prog 175 = some (([.int .i64 0] : List PV)) := by kernel_rfl
theorem sz176 : szT Try.prog 176 = some 1 := by kernel_rfl
theorem by176 : byT Try.prog 176 = some 0 := by kernel_rfl
theorem sz177 : szT Try.prog 177 = some 1 := by kernel_rfl
theorem by177 : byT Try.prog 177 = some 8 := by kernel_rfl
theorem sz178 : szT Try.prog 178 = some 1 := by kernel_rfl
theorem by178 : byT Try.prog 178 = some 8 := by kernel_rfl
theorem sz179 : szT Try.prog 179 = some 1 := by kernel_rfl
theorem by179 : byT Try.prog 179 = some 8 := by kernel_rfl
theorem sz180 : szT Try.prog 180 = some 1 := by kernel_rfl
theorem by180 : byT Try.prog 180 = some 8 := by kernel_rfl
theorem zc180 : zcells Try.prog 180 = some (([.int .u64 0] : List PV)) := by kernel_rfl
theorem sz181 : szT Try.prog 181 = some 1 := by kernel_rfl
theorem by181 : byT Try.prog 181 = some 8 := by kernel_rfl
theorem sz182 : szT Try.prog 182 = some 1 := by kernel_rfl
theorem by182 : byT Try.prog 182 = some 8 := by kernel_rfl
theorem sz183 : szT Try.prog 183 = some 2 := by kernel_rfl
theorem by183 : byT Try.prog 183 = some 32 := by kernel_rfl
theorem zc183 : zcells Try.prog 183 = some (([.slice [] 0 true, .int .i64 0] : List PV)) := by kernel_rfl
theorem sz184 : szT Try.prog 184 = some 2 := by kernel_rfl
theorem by184 : byT Try.prog 184 = some 32 := by kernel_rfl
theorem zc184 : zcells Try.prog 184 = some (([.slice [] 0 true, .int .i64 0] : List PV)) := by kernel_rfl
theorem sz185 : szT Try.prog 185 = some 1 := by kernel_rfl
theorem by185 : byT Try.prog 185 = some 8 := by kernel_rfl
theorem sz186 : szT Try.prog 186 = some 1 := by kernel_rfl
theorem by186 : byT Try.prog 186 = some 8 := by kernel_rfl
theorem sz187 : szT Try.prog 187 = some 1 := by kernel_rfl
theorem by187 : byT Try.prog 187 = some 8 := by kernel_rfl
theorem zc187 : zcells Try.prog 187 = some (([.nilp] : List PV)) := by kernel_rfl
theorem sz188 : szT Try.prog 188 = some 1 := by kernel_rfl
theorem by188 : byT Try.prog 188 = some 8 := by kernel_rfl
theorem sz189 : szT Try.prog 189 = some 1 := by kernel_rfl
theorem by189 : byT Try.prog 189 = some 8 := by kernel_rfl
theorem sz190 : szT Try.prog 190 = some 1 := by kernel_rfl
theorem by190 : byT Try.prog 190 = some 8 := by kernel_rfl
theorem sz191 : szT Try.prog 191 = some 1 := by kernel_rfl
theorem by191 : byT Try.prog 191 = some 8 := by kernel_rfl
theorem sz192 : szT Try.prog 192 = some 1 := by kernel_rfl
theorem by192 : byT Try.prog 192 = some 8 := by kernel_rfl
theorem sz193 : szT Try.prog 193 = some 1 := by kernel_rfl
theorem by193 : byT Try.prog 193 = some 8 := by kernel_rfl
theorem sz194 : szT Try.prog 194 = some 1 := by kernel_rfl
theorem by194 : byT Try.prog 194 = some 8 := by kernel_rfl
theorem sz195 : szT Try.prog 195 = some 1 := by kernel_rfl
theorem by195 : byT Try.prog 195 = some 8 := by kernel_rfl
theorem sz196 : szT Try.prog 196 = some 4 := by kernel_rfl
theorem by196 : byT Try.prog 196 = some 40 := by kernel_rfl
theorem zc196 : zcells Try.prog 196 = some (([.nilp, .nilp, .nilp, .str []] : List PV)) := by kernel_rfl
theorem sz197 : szT Try.prog 197 = some 4 := by kernel_rfl
theorem by197 : byT Try.prog 197 = some 40 := by kernel_rfl
theorem zc197 : zcells Try.prog 197 = some (([.nilp, .nilp, .nilp, .str []] : List PV)) := by kernel_rfl
theorem sz198 : szT Try.prog 198 = some 0 := by kernel_rfl
theorem by198 : byT Try.prog 198 = some 0 := by kernel_rfl
theorem zc198 : zcells Try.prog 198 = some (([] : List PV)) := by kernel_rfl
theorem sz199 : szT Try.prog 199 = some 0 := by kernel_rfl
theorem by199 : byT Try.prog 199 = some 0 := by kernel_rfl
theorem zc199 : zcells Try.prog 199 = some (([] : List PV)) := by kernel_rfl
theorem sz200 : szT Try.prog 200 = some 0 := by kernel_rfl
theorem by200 : byT Try.prog 200 = some 0 := by kernel_rfl
theorem zc200 : zcells Try.prog 200 = some (([] : List PV)) := by kernel_rfl
theorem sz201 : szT Try.prog 201 = some 1 := by kernel_rfl
theorem by201 : byT Try.prog 201 = some 1 := by kernel_rfl
theorem zc201 : zcells Try.prog 201 = some (([.int .u8 0] : List PV)) := by kernel_rfl
theorem sz202 : szT Try.prog 202 = some 1 := by kernel_rfl
theorem by202 : byT Try.prog 202 = some 1 := by kernel_rfl
theorem zc202 : zcells Try.prog 202 = some (([.int .u8 0] : List PV)) := by kernel_rfl
theorem sz203 : szT Try.prog 203 = some 1 := by kernel_rfl
theorem by203 : byT Try.prog 203 = some 8 := by kernel_rfl
theorem sz204 : szT Try.prog 204 = some 1 := by kernel_rfl
theorem by204 : byT Try.prog 204 = some 8 := by kernel_rfl
theorem zc204 : zcells Try.prog 204 = some (([.nilp] : List PV)) := by kernel_rfl
theorem sz205 : szT Try.prog 205 = some 1 := by kernel_rfl
theorem by205 : byT Try.prog 205 = some 4 := by kernel_rfl
theorem zc205 : zcells Try.prog 205 = some (([.int .i32 0] : List PV)) := by kernel_rfl
theorem sz206 : szT Try.prog 206 = some 1 := by kernel_rfl
theorem by206 : byT Try.prog 206 = some 4 := by kernel_rfl
theorem zc206 : zcells Try.prog 206 = some (([.int .i32 0] : List PV)) := by kernel_rfl
theorem sz207 : szT Try.prog 207 = some 11 := by kernel_rfl
theorem by207 : byT Try.prog 207 = some 48 := by kernel_rfl
theorem sz208 : szT Try.prog 208 = some 11 := by kernel_rfl
theorem by208 : byT Try.prog 208 = some 48 := by kernel_rfl
theorem sz209 : szT Try.prog 209 = some 1 := by kernel_rfl
theorem by209 : byT Try.prog 209 = some 8 := by kernel_rfl
theorem zc209 : zcells Try.prog 209 = some (([.nilp] : List PV)) := by kernel_rfl
theorem mix : Try.prog.follows .mixedOrders = true := by kernel_rfl
attribute [go_sem] sz0 sz1 sz2 sz3 sz4 sz5 sz6 sz7 sz8 sz9 sz10 sz11 sz12 sz13 sz14 sz15 sz16 sz17 sz18 sz19 sz20 sz21 sz22 sz23 sz24 sz25 sz26 sz27 sz28 sz29 sz30 sz31 sz32 sz33 sz34 sz35 sz36 sz37 sz38 sz39
attribute [go_sem] sz40 sz41 sz42 sz43 sz44 sz45 sz46 sz47 sz48 sz49 sz50 sz51 sz52 sz53 sz54 sz55 sz56 sz57 sz58 sz59 sz60 sz61 sz62 sz63 sz64 sz65 sz66 sz67 sz68 sz69 sz70 sz71 sz72 sz73 sz74 sz75 sz76 sz77 sz78 sz79
attribute [go_sem] sz80 sz81 sz82 sz83 sz84 sz85 sz86 sz87 sz88 sz89 sz90 sz91 sz92 sz93 sz94 sz95 sz96 sz97 sz98 sz99 sz100 sz101 sz102 sz103 sz104 sz105 sz106 sz107 sz108 sz109 sz110 sz111 sz112 sz113 sz114 sz115 sz116 sz117 sz118 sz119
attribute [go_sem] sz120 sz121 sz122 sz123 sz124 sz125 sz126 sz127 sz128 sz129 sz130 sz131 sz132 sz133 sz134 sz135 sz136 sz137 sz138 sz139 sz140 sz141 sz142 sz143 sz144 sz145 sz146 sz147 sz148 sz149 sz150 sz151 sz152 sz153 sz154 sz155 sz156 sz157 sz158 sz159
attribute [go_sem] sz160 sz161 sz162 sz163 sz164 sz165 sz166 sz167 sz168 sz169 sz170 sz171 sz172 sz173 sz174 sz175 sz176 sz177 sz178 sz179 sz180 sz181 sz182 sz183 sz184 sz185 sz186 sz187 sz188 sz189 sz190 sz191 sz192 sz193 sz194 sz195 sz196 sz197 sz198 sz199
attribute [go_sem] sz200 sz201 sz202 sz203 sz204 sz205 sz206 sz207 sz208 sz209 by0 by1 by2 by3 by4 by5 by6 by7 by8 by9 by10 by11 by12 by13 by14 by15 by16 by17 by18 by19 by20 by21 by22 by23 by24 by25 by26 by27 by28 by29
attribute [go_sem] by30 by31 by32 by33 by34 by35 by36 by37 by38 by39 by40 by41 by42 by43 by44 by45 by46 by47 by48 by49 by50 by51 by52 by53 by54 by55 by56 by57 by58 by59 by60 by61 by62 by63 by64 by65 by66 by67 by68 by69
attribute [go_sem] by70 by71 by72 by73 by74 by75 by76 by77 by78 by79 by80 by81 by82 by83 by84 by85 by86 by87 by88 by89 by90 by91 by92 by93 by94 by95 by96 by97 by98 by99 by100 by101 by102 by103 by104 by105 by106 by107 by108 by109
attribute [go_sem] by110 by111 by112 by113 by114 by115 by116 by117 by118 by119 by120 by121 by122 by123 by124 by125 by126 by127 by128 by129 by130 by131 by132 by133 by134 by135 by136 by137 by138 by139 by140 by141 by142 by143 by144 by145 by146 by147 by148 by149
attribute [go_sem] by150 by151 by152 by153 by154 by155 by156 by157 by158 by159 by160 by161 by162 by163 by164 by165 by166 by167 by168 by169 by170 by171 by172 by173 by174 by175 by176 by177 by178 by179 by180 by181 by182 by183 by184 by185 by186 by187 by188 by189
attribute [go_sem] by190 by191 by192 by193 by194 by195 by196 by197 by198 by199 by200 by201 by202 by203 by204 by205 by206 by207 by208 by209 zc2 zc3 zc4 zc5 zc6 zc7 zc8 zc9 zc10 zc11 zc12 zc13 zc14 zc15 zc16 zc17 zc18 zc19 zc21 zc22
attribute [go_sem] zc23 zc24 zc25 zc26 zc27 zc28 zc29 zc30 zc31 zc33 zc34 zc35 zc38 zc41 zc42 zc43 zc44 zc45 zc46 zc47 zc48 zc49 zc58 zc59 zc60 zc61 zc62 zc63 zc64 zc65 zc66 zc67 zc68 zc70 zc71 zc72 zc73 zc77 zc83 zc84
attribute [go_sem] zc87 zc88 zc89 zc91 zc92 zc103 zc104 zc105 zc116 zc117 zc118 zc121 zc122 zc125 zc126 zc129 zc130 zc140 zc142 zc145 zc158 zc167 zc173 zc174 zc175 zc180 zc183 zc184 zc187 zc196 zc197 zc198 zc199 zc200 zc201 zc202 zc204 zc205 zc206 zc209
attribute [go_sem] Try.underlying0 Try.underlying1 Try.underlying2 Try.underlying3 Try.underlying4 Try.underlying5 Try.underlying6 Try.underlying7 Try.underlying8 Try.underlying9 Try.underlying10 Try.underlying11 Try.underlying12 Try.underlying13 Try.underlying14 Try.underlying15 Try.underlying16 Try.underlying17 Try.underlying18 Try.underlying19 Try.underlying20 Try.underlying21 Try.underlying22 Try.underlying23 Try.underlying24 Try.underlying25 Try.underlying26 Try.underlying27 Try.underlying28 Try.underlying29 Try.underlying30 Try.underlying31 Try.underlying32 Try.underlying33 Try.underlying34 Try.underlying35 Try.underlying36 Try.underlying37 Try.underlying38 Try.underlying39
attribute [go_sem] Try.underlying40 Try.underlying41 Try.underlying42 Try.underlying43 Try.underlying44 Try.underlying45 Try.underlying46 Try.underlying47 Try.underlying48 Try.underlying49 Try.underlying50 Try.underlying51 Try.underlying52 Try.underlying53 Try.underlying54 Try.underlying55 Try.underlying56 Try.underlying57 Try.underlying58 Try.underlying59 Try.underlying60 Try.underlying61 Try.underlying62 Try.underlying63 Try.underlying64 Try.underlying65 Try.underlying66 Try.underlying67 Try.underlying68 Try.underlying69 Try.underlying70 Try.underlying71 Try.underlying72 Try.underlying73 Try.underlying74 Try.underlying75 Try.underlying76 Try.underlying77 Try.underlying78 Try.underlying79
attribute [go_sem] Try.underlying80 Try.underlying81 Try.underlying82 Try.underlying83 Try.underlying84 Try.underlying85 Try.underlying86 Try.underlying87 Try.underlying88 Try.underlying89 Try.underlying90 Try.underlying91 Try.underlying92 Try.underlying93 Try.underlying94 Try.underlying95 Try.underlying96 Try.underlying97 Try.underlying98 Try.underlying99 Try.underlying100 Try.underlying101 Try.underlying102 Try.underlying103 Try.underlying104 Try.underlying105 Try.underlying106 Try.underlying107 Try.underlying108 Try.underlying109 Try.underlying110 Try.underlying111 Try.underlying112 Try.underlying113 Try.underlying114 Try.underlying115 Try.underlying116 Try.underlying117 Try.underlying118 Try.underlying119
attribute [go_sem] Try.underlying120 Try.underlying121 Try.underlying122 Try.underlying123 Try.underlying124 Try.underlying125 Try.underlying126 Try.underlying127 Try.underlying128 Try.underlying129 Try.underlying130 Try.underlying131 Try.underlying132 Try.underlying133 Try.underlying134 Try.underlying135 Try.underlying136 Try.underlying137 Try.underlying138 Try.underlying139 Try.underlying140 Try.underlying141 Try.underlying142 Try.underlying143 Try.underlying144 Try.underlying145 Try.underlying146 Try.underlying147 Try.underlying148 Try.underlying149 Try.underlying150 Try.underlying151 Try.underlying152 Try.underlying153 Try.underlying154 Try.underlying155 Try.underlying156 Try.underlying157 Try.underlying158 Try.underlying159
attribute [go_sem] Try.underlying160 Try.underlying161 Try.underlying162 Try.underlying163 Try.underlying164 Try.underlying165 Try.underlying166 Try.underlying167 Try.underlying168 Try.underlying169 Try.underlying170 Try.underlying171 Try.underlying172 Try.underlying173 Try.underlying174 Try.underlying175 Try.underlying176 Try.underlying177 Try.underlying178 Try.underlying179 Try.underlying180 Try.underlying181 Try.underlying182 Try.underlying183 Try.underlying184 Try.underlying185 Try.underlying186 Try.underlying187 Try.underlying188 Try.underlying189 Try.underlying190 Try.underlying191 Try.underlying192 Try.underlying193 Try.underlying194 Try.underlying195 Try.underlying196 Try.underlying197 Try.underlying198 Try.underlying199
attribute [go_sem] Try.underlying200 Try.underlying201 Try.underlying202 Try.underlying203 Try.underlying204 Try.underlying205 Try.underlying206 Try.underlying207 Try.underlying208 Try.underlying209 Try.eqGuardType24 Try.eqGuardType27 Try.eqGuardType41 Try.eqGuardType42 Try.eqGuardType43 Try.eqGuardType44 Try.eqGuardType45 Try.eqGuardType46 Try.eqGuardType47 Try.eqGuardType60 Try.eqGuardType198
end Go.Proofs.Ytcabpncdgagihaa.Ty
