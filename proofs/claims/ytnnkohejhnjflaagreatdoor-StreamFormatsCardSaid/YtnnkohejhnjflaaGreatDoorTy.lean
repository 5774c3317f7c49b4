/-
  The program's table of types, as facts for evaluation. Written by a program (gen_types.py). No condition.
-/
import Derived.Test.YtnnkohejhnjflaaGreatDoorPmK
import Derived.Test.YtnnkohejhnjflaaGreatDoorProg
import Derived.KernelRfl
namespace Go.Proofs.YtnnkohejhnjflaaGreatDoor.Ty
open Pm
theorem sz0 : szT Tryz.prog 0 = some 1 := by kernel_rfl
theorem by0 : byT Tryz.prog 0 = some 0 := by kernel_rfl
theorem sz1 : szT Tryz.prog 1 = some 1 := by kernel_rfl
theorem by1 : byT Tryz.prog 1 = some 8 := by kernel_rfl
theorem sz2 : szT Tryz.prog 2 = some 1 := by kernel_rfl
theorem by2 : byT Tryz.prog 2 = some 8 := by kernel_rfl
theorem zc2 : zcells Tryz.prog 2 = some (([.int .i64 0] : List PV)) := by kernel_rfl
theorem sz3 : szT Tryz.prog 3 = some 1 := by kernel_rfl
theorem by3 : byT Tryz.prog 3 = some 8 := by kernel_rfl
theorem zc3 : zcells Tryz.prog 3 = some (([.int .i64 0] : List PV)) := by kernel_rfl
theorem sz4 : szT Tryz.prog 4 = some 1 := by kernel_rfl
theorem by4 : byT Tryz.prog 4 = some 1 := by kernel_rfl
theorem zc4 : zcells Tryz.prog 4 = some (([.bool false] : List PV)) := by kernel_rfl
theorem sz5 : szT Tryz.prog 5 = some 1 := by kernel_rfl
theorem by5 : byT Tryz.prog 5 = some 1 := by kernel_rfl
theorem zc5 : zcells Tryz.prog 5 = some (([.int .u8 0] : List PV)) := by kernel_rfl
theorem sz6 : szT Tryz.prog 6 = some 1 := by kernel_rfl
theorem by6 : byT Tryz.prog 6 = some 1 := by kernel_rfl
theorem zc6 : zcells Tryz.prog 6 = some (([.int .u8 0] : List PV)) := by kernel_rfl
theorem sz7 : szT Tryz.prog 7 = some 4 := by kernel_rfl
theorem by7 : byT Tryz.prog 7 = some 24 := by kernel_rfl
theorem zc7 : zcells Tryz.prog 7 = some (([.int .i64 0, .int .i64 0, .bool false, .int .u8 0] : List PV)) := by kernel_rfl
theorem sz8 : szT Tryz.prog 8 = some 4 := by kernel_rfl
theorem by8 : byT Tryz.prog 8 = some 24 := by kernel_rfl
theorem zc8 : zcells Tryz.prog 8 = some (([.int .i64 0, .int .i64 0, .bool false, .int .u8 0] : List PV)) := by kernel_rfl
theorem sz9 : szT Tryz.prog 9 = some 1 := by kernel_rfl
theorem by9 : byT Tryz.prog 9 = some 16 := by kernel_rfl
theorem zc9 : zcells Tryz.prog 9 = some (([.str []] : List PV)) := by kernel_rfl
theorem sz10 : szT Tryz.prog 10 = some 1 := by kernel_rfl
theorem by10 : byT Tryz.prog 10 = some 16 := by kernel_rfl
theorem zc10 : zcells Tryz.prog 10 = some (([.str []] : List PV)) := by kernel_rfl
theorem sz11 : szT Tryz.prog 11 = some 1 := by kernel_rfl
theorem by11 : byT Tryz.prog 11 = some 16 := by kernel_rfl
theorem zc11 : zcells Tryz.prog 11 = some (([.str []] : List PV)) := by kernel_rfl
theorem sz12 : szT Tryz.prog 12 = some 1 := by kernel_rfl
theorem by12 : byT Tryz.prog 12 = some 8 := by kernel_rfl
theorem zc12 : zcells Tryz.prog 12 = some (([.int .u64 0] : List PV)) := by kernel_rfl
theorem sz13 : szT Tryz.prog 13 = some 2 := by kernel_rfl
theorem by13 : byT Tryz.prog 13 = some 24 := by kernel_rfl
theorem zc13 : zcells Tryz.prog 13 = some (([.str [], .int .u64 0] : List PV)) := by kernel_rfl
theorem sz14 : szT Tryz.prog 14 = some 2 := by kernel_rfl
theorem by14 : byT Tryz.prog 14 = some 24 := by kernel_rfl
theorem zc14 : zcells Tryz.prog 14 = some (([.str [], .int .u64 0] : List PV)) := by kernel_rfl
theorem sz15 : szT Tryz.prog 15 = some 1 := by kernel_rfl
theorem by15 : byT Tryz.prog 15 = some 8 := by kernel_rfl
theorem zc15 : zcells Tryz.prog 15 = some (([.nilp] : List PV)) := by kernel_rfl
theorem sz16 : szT Tryz.prog 16 = some 1 := by kernel_rfl
theorem by16 : byT Tryz.prog 16 = some 8 := by kernel_rfl
theorem zc16 : zcells Tryz.prog 16 = some (([.nilp] : List PV)) := by kernel_rfl
theorem sz17 : szT Tryz.prog 17 = some 1 := by kernel_rfl
theorem by17 : byT Tryz.prog 17 = some 8 := by kernel_rfl
theorem zc17 : zcells Tryz.prog 17 = some (([.nilp] : List PV)) := by kernel_rfl
theorem sz18 : szT Tryz.prog 18 = some 1 := by kernel_rfl
theorem by18 : byT Tryz.prog 18 = some 8 := by kernel_rfl
theorem zc18 : zcells Tryz.prog 18 = some (([.nilp] : List PV)) := by kernel_rfl
theorem sz19 : szT Tryz.prog 19 = some 1 := by kernel_rfl
theorem by19 : byT Tryz.prog 19 = some 8 := by kernel_rfl
theorem zc19 : zcells Tryz.prog 19 = some (([.nilp] : List PV)) := by kernel_rfl
theorem sz20 : szT Tryz.prog 20 = some 1 := by kernel_rfl
theorem by20 : byT Tryz.prog 20 = some 16 := by kernel_rfl
theorem sz21 : szT Tryz.prog 21 = some 1 := by kernel_rfl
theorem by21 : byT Tryz.prog 21 = some 4 := by kernel_rfl
theorem zc21 : zcells Tryz.prog 21 = some (([.int .i32 0] : List PV)) := by kernel_rfl
theorem sz22 : szT Tryz.prog 22 = some 2 := by kernel_rfl
theorem by22 : byT Tryz.prog 22 = some 16 := by kernel_rfl
theorem zc22 : zcells Tryz.prog 22 = some (([.int .i64 0, .int .i64 0] : List PV)) := by kernel_rfl
theorem sz23 : szT Tryz.prog 23 = some 2 := by kernel_rfl
theorem by23 : byT Tryz.prog 23 = some 16 := by kernel_rfl
theorem zc23 : zcells Tryz.prog 23 = some (([.int .i64 0, .int .i64 0] : List PV)) := by kernel_rfl
theorem sz24 : szT Tryz.prog 24 = some 64 := by kernel_rfl
theorem by24 : byT Tryz.prog 24 = some 64 := by kernel_rfl
theorem zc24 : zcells Tryz.prog 24 = some ((List.replicate 64 (PV.int .u8 0) : List PV)) := by kernel_rfl
theorem sz25 : szT Tryz.prog 25 = some 135 := by kernel_rfl
theorem by25 : byT Tryz.prog 25 = some 184 := by kernel_rfl
theorem zc25 : zcells Tryz.prog 25 = some (([.int .i64 0, .int .i64 0, .int .i64 0, .int .i64 0, .bool false, .int .i64 0, .int .i64 0] : List PV) ++ (List.replicate 128 (PV.int .u8 0) : List PV)) := by kernel_rfl
theorem sz26 : szT Tryz.prog 26 = some 135 := by kernel_rfl
theorem by26 : byT Tryz.prog 26 = some 184 := by kernel_rfl
theorem zc26 : zcells Tryz.prog 26 = some (([.int .i64 0, .int .i64 0, .int .i64 0, .int .i64 0, .bool false, .int .i64 0, .int .i64 0] : List PV) ++ (List.replicate 128 (PV.int .u8 0) : List PV)) := by kernel_rfl
theorem sz27 : szT Tryz.prog 27 = some 3 := by kernel_rfl
theorem by27 : byT Tryz.prog 27 = some 16 := by kernel_rfl
theorem zc27 : zcells Tryz.prog 27 = some (([.bool false, .bool false, .int .i64 0] : List PV)) := by kernel_rfl
theorem sz28 : szT Tryz.prog 28 = some 3 := by kernel_rfl
theorem by28 : byT Tryz.prog 28 = some 16 := by kernel_rfl
theorem zc28 : zcells Tryz.prog 28 = some (([.bool false, .bool false, .int .i64 0] : List PV)) := by kernel_rfl
theorem sz29 : szT Tryz.prog 29 = some 1 := by kernel_rfl
theorem by29 : byT Tryz.prog 29 = some 24 := by kernel_rfl
theorem zc29 : zcells Tryz.prog 29 = some (([.slice [] 0 true] : List PV)) := by kernel_rfl
theorem sz30 : szT Tryz.prog 30 = some 2 := by kernel_rfl
theorem by30 : byT Tryz.prog 30 = some 32 := by kernel_rfl
theorem zc30 : zcells Tryz.prog 30 = some (([.int .i64 0, .slice [] 0 true] : List PV)) := by kernel_rfl
theorem sz31 : szT Tryz.prog 31 = some 2 := by kernel_rfl
theorem by31 : byT Tryz.prog 31 = some 32 := by kernel_rfl
theorem zc31 : zcells Tryz.prog 31 = some (([.int .i64 0, .slice [] 0 true] : List PV)) := by kernel_rfl
theorem sz32 : szT Tryz.prog 32 = some 1 := by kernel_rfl
theorem by32 : byT Tryz.prog 32 = some 8 := by kernel_rfl
theorem zc32 : zcells Tryz.prog 32 = some (([.int .i64 0] : List PV)) := by kernel_rfl
theorem sz33 : szT Tryz.prog 33 = some 1 := by kernel_rfl
theorem by33 : byT Tryz.prog 33 = some 0 := by kernel_rfl
theorem sz34 : szT Tryz.prog 34 = some 1 := by kernel_rfl
theorem by34 : byT Tryz.prog 34 = some 8 := by kernel_rfl
theorem sz35 : szT Tryz.prog 35 = some 1 := by kernel_rfl
theorem by35 : byT Tryz.prog 35 = some 8 := by kernel_rfl
theorem sz36 : szT Tryz.prog 36 = some 1 := by kernel_rfl
theorem by36 : byT Tryz.prog 36 = some 0 := by kernel_rfl
theorem sz37 : szT Tryz.prog 37 = some 1 := by kernel_rfl
theorem by37 : byT Tryz.prog 37 = some 8 := by kernel_rfl
theorem sz38 : szT Tryz.prog 38 = some 1 := by kernel_rfl
theorem by38 : byT Tryz.prog 38 = some 8 := by kernel_rfl
theorem sz39 : szT Tryz.prog 39 = some 1 := by kernel_rfl
theorem by39 : byT Tryz.prog 39 = some 0 := by kernel_rfl
theorem sz40 : szT Tryz.prog 40 = some 1 := by kernel_rfl
theorem by40 : byT Tryz.prog 40 = some 8 := by kernel_rfl
theorem sz41 : szT Tryz.prog 41 = some 1 := by kernel_rfl
theorem by41 : byT Tryz.prog 41 = some 8 := by kernel_rfl
theorem sz42 : szT Tryz.prog 42 = some 1 := by kernel_rfl
theorem by42 : byT Tryz.prog 42 = some 8 := by kernel_rfl
theorem sz43 : szT Tryz.prog 43 = some 1 := by kernel_rfl
theorem by43 : byT Tryz.prog 43 = some 8 := by kernel_rfl
theorem sz44 : szT Tryz.prog 44 = some 1 := by kernel_rfl
theorem by44 : byT Tryz.prog 44 = some 24 := by kernel_rfl
theorem zc44 : zcells Tryz.prog 44 = some (([.slice [] 0 true] : List PV)) := by kernel_rfl
theorem sz45 : szT Tryz.prog 45 = some 1 := by kernel_rfl
theorem by45 : byT Tryz.prog 45 = some 24 := by kernel_rfl
theorem zc45 : zcells Tryz.prog 45 = some (([.slice [] 0 true] : List PV)) := by kernel_rfl
theorem sz46 : szT Tryz.prog 46 = some 1 := by kernel_rfl
theorem by46 : byT Tryz.prog 46 = some 0 := by kernel_rfl
theorem sz47 : szT Tryz.prog 47 = some 1 := by kernel_rfl
theorem by47 : byT Tryz.prog 47 = some 8 := by kernel_rfl
theorem sz48 : szT Tryz.prog 48 = some 1 := by kernel_rfl
theorem by48 : byT Tryz.prog 48 = some 24 := by kernel_rfl
theorem zc48 : zcells Tryz.prog 48 = some (([.slice [] 0 true] : List PV)) := by kernel_rfl
theorem sz49 : szT Tryz.prog 49 = some 1 := by kernel_rfl
theorem by49 : byT Tryz.prog 49 = some 0 := by kernel_rfl
theorem sz50 : szT Tryz.prog 50 = some 1 := by kernel_rfl
theorem by50 : byT Tryz.prog 50 = some 8 := by kernel_rfl
theorem sz51 : szT Tryz.prog 51 = some 1 := by kernel_rfl
theorem by51 : byT Tryz.prog 51 = some 8 := by kernel_rfl
theorem sz52 : szT Tryz.prog 52 = some 1 := by kernel_rfl
theorem by52 : byT Tryz.prog 52 = some 8 := by kernel_rfl
theorem sz53 : szT Tryz.prog 53 = some 1 := by kernel_rfl
theorem by53 : byT Tryz.prog 53 = some 8 := by kernel_rfl
theorem sz54 : szT Tryz.prog 54 = some 1 := by kernel_rfl
theorem by54 : byT Tryz.prog 54 = some 8 := by kernel_rfl
theorem sz55 : szT Tryz.prog 55 = some 1 := by kernel_rfl
theorem by55 : byT Tryz.prog 55 = some 0 := by kernel_rfl
theorem sz56 : szT Tryz.prog 56 = some 1 := by kernel_rfl
theorem by56 : byT Tryz.prog 56 = some 8 := by kernel_rfl
theorem sz57 : szT Tryz.prog 57 = some 6 := by kernel_rfl
theorem by57 : byT Tryz.prog 57 = some 32 := by kernel_rfl
theorem zc57 : zcells Tryz.prog 57 = some (([.int .i64 0, .int .i64 0, .int .i64 0, .bool false, .bool false, .bool false] : List PV)) := by kernel_rfl
theorem sz58 : szT Tryz.prog 58 = some 6 := by kernel_rfl
theorem by58 : byT Tryz.prog 58 = some 32 := by kernel_rfl
theorem zc58 : zcells Tryz.prog 58 = some (([.int .i64 0, .int .i64 0, .int .i64 0, .bool false, .bool false, .bool false] : List PV)) := by kernel_rfl
theorem sz59 : szT Tryz.prog 59 = some 1 := by kernel_rfl
theorem by59 : byT Tryz.prog 59 = some 24 := by kernel_rfl
theorem zc59 : zcells Tryz.prog 59 = some (([.slice [] 0 true] : List PV)) := by kernel_rfl
theorem sz60 : szT Tryz.prog 60 = some 1 := by kernel_rfl
theorem by60 : byT Tryz.prog 60 = some 24 := by kernel_rfl
theorem zc60 : zcells Tryz.prog 60 = some (([.slice [] 0 true] : List PV)) := by kernel_rfl
theorem sz61 : szT Tryz.prog 61 = some 8 := by kernel_rfl
theorem by61 : byT Tryz.prog 61 = some 80 := by kernel_rfl
theorem zc61 : zcells Tryz.prog 61 = some (([.int .i64 0, .int .i64 0, .int .i64 0, .bool false, .bool false, .bool false, .slice [] 0 true, .slice [] 0 true] : List PV)) := by kernel_rfl
theorem sz62 : szT Tryz.prog 62 = some 8 := by kernel_rfl
theorem by62 : byT Tryz.prog 62 = some 80 := by kernel_rfl
theorem zc62 : zcells Tryz.prog 62 = some (([.int .i64 0, .int .i64 0, .int .i64 0, .bool false, .bool false, .bool false, .slice [] 0 true, .slice [] 0 true] : List PV)) := by kernel_rfl
theorem sz63 : szT Tryz.prog 63 = some 148 := by kernel_rfl
theorem by63 : byT Tryz.prog 63 = some 296 := by kernel_rfl
theorem zc63 : zcells Tryz.prog 63 = some (([.int .i64 0, .int .i64 0, .int .i64 0, .int .i64 0, .int .i64 0, .bool false, .int .i64 0, .int .i64 0] : List PV) ++ (List.replicate 128 (PV.int .u8 0) : List PV) ++ ([.bool false, .bool false, .int .i64 0, .int .i64 0, .int .i64 0, .int .i64 0, .bool false, .bool false, .bool false, .slice [] 0 true, .slice [] 0 true, .int .i64 0] : List PV)) := by kernel_rfl
theorem sz64 : szT Tryz.prog 64 = some 148 := by kernel_rfl
theorem by64 : byT Tryz.prog 64 = some 296 := by kernel_rfl
theorem zc64 : zcells Tryz.prog 64 = some (([.int .i64 0, .int .i64 0, .int .i64 0, .int .i64 0, .int .i64 0, .bool false, .int .i64 0, .int .i64 0] : List PV) ++ (List.replicate 128 (PV.int .u8 0) : List PV) ++ ([.bool false, .bool false, .int .i64 0, .int .i64 0, .int .i64 0, .int .i64 0, .bool false, .bool false, .bool false, .slice [] 0 true, .slice [] 0 true, .int .i64 0] : List PV)) := by kernel_rfl
theorem sz65 : szT Tryz.prog 65 = some 1 := by kernel_rfl
theorem by65 : byT Tryz.prog 65 = some 0 := by kernel_rfl
theorem sz66 : szT Tryz.prog 66 = some 1 := by kernel_rfl
theorem by66 : byT Tryz.prog 66 = some 8 := by kernel_rfl
theorem sz67 : szT Tryz.prog 67 = some 1 := by kernel_rfl
theorem by67 : byT Tryz.prog 67 = some 8 := by kernel_rfl
theorem sz68 : szT Tryz.prog 68 = some 1 := by kernel_rfl
theorem by68 : byT Tryz.prog 68 = some 24 := by kernel_rfl
theorem zc68 : zcells Tryz.prog 68 = some (([.slice [] 0 true] : List PV)) := by kernel_rfl
theorem sz69 : szT Tryz.prog 69 = some 1 := by kernel_rfl
theorem by69 : byT Tryz.prog 69 = some 8 := by kernel_rfl
theorem sz70 : szT Tryz.prog 70 = some 1 := by kernel_rfl
theorem by70 : byT Tryz.prog 70 = some 24 := by kernel_rfl
theorem zc70 : zcells Tryz.prog 70 = some (([.slice [] 0 true] : List PV)) := by kernel_rfl
theorem sz71 : szT Tryz.prog 71 = some 1 := by kernel_rfl
theorem by71 : byT Tryz.prog 71 = some 8 := by kernel_rfl
theorem sz72 : szT Tryz.prog 72 = some 6 := by kernel_rfl
theorem by72 : byT Tryz.prog 72 = some 48 := by kernel_rfl
theorem zc72 : zcells Tryz.prog 72 = some (([.int .i64 0, .int .i64 0, .int .i64 0, .int .i64 0, .int .i64 0, .int .i64 0] : List PV)) := by kernel_rfl
theorem sz73 : szT Tryz.prog 73 = some 6 := by kernel_rfl
theorem by73 : byT Tryz.prog 73 = some 48 := by kernel_rfl
theorem zc73 : zcells Tryz.prog 73 = some (([.int .i64 0, .int .i64 0, .int .i64 0, .int .i64 0, .int .i64 0, .int .i64 0] : List PV)) := by kernel_rfl
theorem sz74 : szT Tryz.prog 74 = some 6 := by kernel_rfl
theorem by74 : byT Tryz.prog 74 = some 48 := by kernel_rfl
theorem zc74 : zcells Tryz.prog 74 = some (([.int .i64 0, .int .i64 0, .int .i64 0, .int .i64 0, .int .i64 0, .int .i64 0] : List PV)) := by kernel_rfl
theorem sz75 : szT Tryz.prog 75 = some 1 := by kernel_rfl
theorem by75 : byT Tryz.prog 75 = some 8 := by kernel_rfl
theorem sz76 : szT Tryz.prog 76 = some 1 := by kernel_rfl
theorem by76 : byT Tryz.prog 76 = some 8 := by kernel_rfl
theorem zc76 : zcells Tryz.prog 76 = some (([.nilp] : List PV)) := by kernel_rfl
theorem sz77 : szT Tryz.prog 77 = some 1 := by kernel_rfl
theorem by77 : byT Tryz.prog 77 = some 8 := by kernel_rfl
theorem sz78 : szT Tryz.prog 78 = some 1 := by kernel_rfl
theorem by78 : byT Tryz.prog 78 = some 8 := by kernel_rfl
theorem sz79 : szT Tryz.prog 79 = some 1 := by kernel_rfl
theorem by79 : byT Tryz.prog 79 = some 4 := by kernel_rfl
theorem zc79 : zcells Tryz.prog 79 = some (([.int .u32 0] : List PV)) := by kernel_rfl
theorem sz80 : szT Tryz.prog 80 = some 1 := by kernel_rfl
theorem by80 : byT Tryz.prog 80 = some 8 := by kernel_rfl
theorem sz81 : szT Tryz.prog 81 = some 1 := by kernel_rfl
theorem by81 : byT Tryz.prog 81 = some 8 := by kernel_rfl
theorem sz82 : szT Tryz.prog 82 = some 1 := by kernel_rfl
theorem by82 : byT Tryz.prog 82 = some 8 := by kernel_rfl
theorem sz83 : szT Tryz.prog 83 = some 1 := by kernel_rfl
theorem by83 : byT Tryz.prog 83 = some 8 := by kernel_rfl
theorem sz84 : szT Tryz.prog 84 = some 1 := by kernel_rfl
theorem by84 : byT Tryz.prog 84 = some 8 := by kernel_rfl
theorem sz85 : szT Tryz.prog 85 = some 1 := by kernel_rfl
theorem by85 : byT Tryz.prog 85 = some 8 := by kernel_rfl
theorem sz86 : szT Tryz.prog 86 = some 1 := by kernel_rfl
theorem by86 : byT Tryz.prog 86 = some 8 := by kernel_rfl
theorem sz87 : szT Tryz.prog 87 = some 1 := by kernel_rfl
theorem by87 : byT Tryz.prog 87 = some 8 := by kernel_rfl
theorem sz88 : szT Tryz.prog 88 = some 1 := by kernel_rfl
theorem by88 : byT Tryz.prog 88 = some 8 := by kernel_rfl
theorem zc88 : zcells Tryz.prog 88 = some (([.nilp] : List PV)) := by kernel_rfl
theorem sz89 : szT Tryz.prog 89 = some 1 := by kernel_rfl
theorem by89 : byT Tryz.prog 89 = some 0 := by kernel_rfl
theorem sz90 : szT Tryz.prog 90 = some 1 := by kernel_rfl
theorem by90 : byT Tryz.prog 90 = some 8 := by kernel_rfl
theorem sz91 : szT Tryz.prog 91 = some 2 := by kernel_rfl
theorem by91 : byT Tryz.prog 91 = some 16 := by kernel_rfl
theorem zc91 : zcells Tryz.prog 91 = some (([.nilp, .int .i64 0] : List PV)) := by kernel_rfl
theorem sz92 : szT Tryz.prog 92 = some 2 := by kernel_rfl
theorem by92 : byT Tryz.prog 92 = some 16 := by kernel_rfl
theorem zc92 : zcells Tryz.prog 92 = some (([.nilp, .int .i64 0] : List PV)) := by kernel_rfl
theorem sz93 : szT Tryz.prog 93 = some 1 := by kernel_rfl
theorem by93 : byT Tryz.prog 93 = some 8 := by kernel_rfl
theorem sz94 : szT Tryz.prog 94 = some 1 := by kernel_rfl
theorem by94 : byT Tryz.prog 94 = some 8 := by kernel_rfl
theorem sz95 : szT Tryz.prog 95 = some 1 := by kernel_rfl
theorem by95 : byT Tryz.prog 95 = some 8 := by kernel_rfl
theorem sz96 : szT Tryz.prog 96 = some 1 := by kernel_rfl
theorem by96 : byT Tryz.prog 96 = some 8 := by kernel_rfl
theorem zc96 : zcells Tryz.prog 96 = some (([.nilp] : List PV)) := by kernel_rfl
theorem sz97 : szT Tryz.prog 97 = some 1 := by kernel_rfl
theorem by97 : byT Tryz.prog 97 = some 0 := by kernel_rfl
theorem sz98 : szT Tryz.prog 98 = some 1 := by kernel_rfl
theorem by98 : byT Tryz.prog 98 = some 8 := by kernel_rfl
theorem sz99 : szT Tryz.prog 99 = some 1 := by kernel_rfl
theorem by99 : byT Tryz.prog 99 = some 8 := by kernel_rfl
theorem sz100 : szT Tryz.prog 100 = some 1 := by kernel_rfl
theorem by100 : byT Tryz.prog 100 = some 8 := by kernel_rfl
theorem sz101 : szT Tryz.prog 101 = some 1 := by kernel_rfl
theorem by101 : byT Tryz.prog 101 = some 24 := by kernel_rfl
theorem zc101 : zcells Tryz.prog 101 = some (([.slice [] 0 true] : List PV)) := by kernel_rfl
theorem sz102 : szT Tryz.prog 102 = some 1 := by kernel_rfl
theorem by102 : byT Tryz.prog 102 = some 0 := by kernel_rfl
theorem sz103 : szT Tryz.prog 103 = some 1 := by kernel_rfl
theorem by103 : byT Tryz.prog 103 = some 8 := by kernel_rfl
theorem sz104 : szT Tryz.prog 104 = some 3 := by kernel_rfl
theorem by104 : byT Tryz.prog 104 = some 40 := by kernel_rfl
theorem zc104 : zcells Tryz.prog 104 = some (([.slice [] 0 true, .int .i64 0, .bool false] : List PV)) := by kernel_rfl
theorem sz105 : szT Tryz.prog 105 = some 3 := by kernel_rfl
theorem by105 : byT Tryz.prog 105 = some 40 := by kernel_rfl
theorem zc105 : zcells Tryz.prog 105 = some (([.slice [] 0 true, .int .i64 0, .bool false] : List PV)) := by kernel_rfl
theorem sz106 : szT Tryz.prog 106 = some 5 := by kernel_rfl
theorem by106 : byT Tryz.prog 106 = some 56 := by kernel_rfl
theorem zc106 : zcells Tryz.prog 106 = some (([.int .i64 0, .slice [] 0 true, .int .i64 0, .int .i64 0, .int .i64 0] : List PV)) := by kernel_rfl
theorem sz107 : szT Tryz.prog 107 = some 5 := by kernel_rfl
theorem by107 : byT Tryz.prog 107 = some 56 := by kernel_rfl
theorem zc107 : zcells Tryz.prog 107 = some (([.int .i64 0, .slice [] 0 true, .int .i64 0, .int .i64 0, .int .i64 0] : List PV)) := by kernel_rfl
theorem sz108 : szT Tryz.prog 108 = some 2 := by kernel_rfl
theorem by108 : byT Tryz.prog 108 = some 16 := by kernel_rfl
theorem zc108 : zcells Tryz.prog 108 = some (([.int .i64 0, .int .i64 0] : List PV)) := by kernel_rfl
theorem sz109 : szT Tryz.prog 109 = some 2 := by kernel_rfl
theorem by109 : byT Tryz.prog 109 = some 16 := by kernel_rfl
theorem zc109 : zcells Tryz.prog 109 = some (([.int .i64 0, .int .i64 0] : List PV)) := by kernel_rfl
theorem sz110 : szT Tryz.prog 110 = some 1 := by kernel_rfl
theorem by110 : byT Tryz.prog 110 = some 8 := by kernel_rfl
theorem sz111 : szT Tryz.prog 111 = some 1 := by kernel_rfl
theorem by111 : byT Tryz.prog 111 = some 8 := by kernel_rfl
theorem sz112 : szT Tryz.prog 112 = some 1 := by kernel_rfl
theorem by112 : byT Tryz.prog 112 = some 8 := by kernel_rfl
theorem sz113 : szT Tryz.prog 113 = some 1 := by kernel_rfl
theorem by113 : byT Tryz.prog 113 = some 24 := by kernel_rfl
theorem zc113 : zcells Tryz.prog 113 = some (([.slice [] 0 true] : List PV)) := by kernel_rfl
theorem sz114 : szT Tryz.prog 114 = some 1 := by kernel_rfl
theorem by114 : byT Tryz.prog 114 = some 0 := by kernel_rfl
theorem sz115 : szT Tryz.prog 115 = some 1 := by kernel_rfl
theorem by115 : byT Tryz.prog 115 = some 8 := by kernel_rfl
theorem sz116 : szT Tryz.prog 116 = some 5 := by kernel_rfl
theorem by116 : byT Tryz.prog 116 = some 56 := by kernel_rfl
theorem zc116 : zcells Tryz.prog 116 = some (([.int .i64 0, .slice [] 0 true, .int .i64 0, .int .i64 0, .int .i64 0] : List PV)) := by kernel_rfl
theorem sz117 : szT Tryz.prog 117 = some 1 := by kernel_rfl
theorem by117 : byT Tryz.prog 117 = some 8 := by kernel_rfl
theorem sz118 : szT Tryz.prog 118 = some 1 := by kernel_rfl
theorem by118 : byT Tryz.prog 118 = some 0 := by kernel_rfl
theorem sz119 : szT Tryz.prog 119 = some 1 := by kernel_rfl
theorem by119 : byT Tryz.prog 119 = some 8 := by kernel_rfl
theorem sz120 : szT Tryz.prog 120 = some 1 := by kernel_rfl
theorem by120 : byT Tryz.prog 120 = some 8 := by kernel_rfl
theorem zc120 : zcells Tryz.prog 120 = some (([.nilp] : List PV)) := by kernel_rfl
theorem sz121 : szT Tryz.prog 121 = some 1 := by kernel_rfl
theorem by121 : byT Tryz.prog 121 = some 8 := by kernel_rfl
theorem sz122 : szT Tryz.prog 122 = some 2 := by kernel_rfl
theorem by122 : byT Tryz.prog 122 = some 16 := by kernel_rfl
theorem zc122 : zcells Tryz.prog 122 = some (([.int .i64 0, .int .i64 0] : List PV)) := by kernel_rfl
theorem sz123 : szT Tryz.prog 123 = some 1 := by kernel_rfl
theorem by123 : byT Tryz.prog 123 = some 8 := by kernel_rfl
theorem sz124 : szT Tryz.prog 124 = some 1 := by kernel_rfl
theorem by124 : byT Tryz.prog 124 = some 8 := by kernel_rfl
theorem sz125 : szT Tryz.prog 125 = some 1 := by kernel_rfl
theorem by125 : byT Tryz.prog 125 = some 24 := by kernel_rfl
theorem zc125 : zcells Tryz.prog 125 = some (([.slice [] 0 true] : List PV)) := by kernel_rfl
theorem sz126 : szT Tryz.prog 126 = some 1 := by kernel_rfl
theorem by126 : byT Tryz.prog 126 = some 8 := by kernel_rfl
theorem sz127 : szT Tryz.prog 127 = some 147 := by kernel_rfl
theorem by127 : byT Tryz.prog 127 = some 264 := by kernel_rfl
theorem zc127 : zcells Tryz.prog 127 = some (([.int .i64 0, .int .i64 0, .int .i64 0, .int .i64 0, .int .i64 0, .int .i64 0, .int .i64 0, .int .i64 0, .int .i64 0, .int .i64 0, .bool false, .int .i64 0, .int .i64 0] : List PV) ++ (List.replicate 128 (PV.int .u8 0) : List PV) ++ ([.int .i64 0, .int .i64 0, .int .i64 0, .bool false, .bool false, .bool false] : List PV)) := by kernel_rfl
theorem sz128 : szT Tryz.prog 128 = some 147 := by kernel_rfl
theorem by128 : byT Tryz.prog 128 = some 264 := by kernel_rfl
theorem zc128 : zcells Tryz.prog 128 = some (([.int .i64 0, .int .i64 0, .int .i64 0, .int .i64 0, .int .i64 0, .int .i64 0, .int .i64 0, .int .i64 0, .int .i64 0, .int .i64 0, .bool false, .int .i64 0, .int .i64 0] : List PV) ++ (List.replicate 128 (PV.int .u8 0) : List PV) ++ ([.int .i64 0, .int .i64 0, .int .i64 0, .bool false, .bool false, .bool false] : List PV)) := by kernel_rfl
theorem sz129 : szT Tryz.prog 129 = some 145 := by kernel_rfl
theorem by129 : byT Tryz.prog 129 = some 296 := by kernel_rfl
theorem zc129 : zcells Tryz.prog 129 = some (([.slice [] 0 true, .bool false, .int .i64 0, .int .i64 0, .int .i64 0, .int .i64 0, .bool false, .int .i64 0, .int .i64 0] : List PV) ++ (List.replicate 128 (PV.int .u8 0) : List PV) ++ ([.int .i64 0, .int .i64 0, .bool false, .int .i64 0, .int .i64 0, .int .i64 0, .slice [] 0 true, .bool false] : List PV)) := by kernel_rfl
theorem sz130 : szT Tryz.prog 130 = some 145 := by kernel_rfl
theorem by130 : byT Tryz.prog 130 = some 296 := by kernel_rfl
theorem zc130 : zcells Tryz.prog 130 = some (([.slice [] 0 true, .bool false, .int .i64 0, .int .i64 0, .int .i64 0, .int .i64 0, .bool false, .int .i64 0, .int .i64 0] : List PV) ++ (List.replicate 128 (PV.int .u8 0) : List PV) ++ ([.int .i64 0, .int .i64 0, .bool false, .int .i64 0, .int .i64 0, .int .i64 0, .slice [] 0 true, .bool false] : List PV)) := by kernel_rfl
theorem sz131 : szT Tryz.prog 131 = some 1 := by kernel_rfl
theorem by131 : byT Tryz.prog 131 = some 8 := by kernel_rfl
theorem sz132 : szT Tryz.prog 132 = some 1 := by kernel_rfl
theorem by132 : byT Tryz.prog 132 = some 8 := by kernel_rfl
theorem sz133 : szT Tryz.prog 133 = some 1 := by kernel_rfl
theorem by133 : byT Tryz.prog 133 = some 8 := by kernel_rfl
theorem sz134 : szT Tryz.prog 134 = some 1 := by kernel_rfl
theorem by134 : byT Tryz.prog 134 = some 8 := by kernel_rfl
theorem sz135 : szT Tryz.prog 135 = some 2 := by kernel_rfl
theorem by135 : byT Tryz.prog 135 = some 32 := by kernel_rfl
theorem zc135 : zcells Tryz.prog 135 = some (([.slice [] 0 true, .int .i64 0] : List PV)) := by kernel_rfl
theorem sz136 : szT Tryz.prog 136 = some 2 := by kernel_rfl
theorem by136 : byT Tryz.prog 136 = some 32 := by kernel_rfl
theorem zc136 : zcells Tryz.prog 136 = some (([.slice [] 0 true, .int .i64 0] : List PV)) := by kernel_rfl
theorem sz137 : szT Tryz.prog 137 = some 64 := by kernel_rfl
theorem by137 : byT Tryz.prog 137 = some 512 := by kernel_rfl
theorem zc137 : zcells Tryz.prog 137 = some ((List.replicate 64 (PV.int .i64 0) : List PV)) := by kernel_rfl
theorem sz138 : szT Tryz.prog 138 = some 1 := by kernel_rfl
theorem by138 : byT Tryz.prog 138 = some 8 := by kernel_rfl
theorem sz139 : szT Tryz.prog 139 = some 1 := by kernel_rfl
theorem by139 : byT Tryz.prog 139 = some 8 := by kernel_rfl
theorem zc139 : zcells Tryz.prog 139 = some (([.int .u64 0] : List PV)) := by kernel_rfl
theorem sz140 : szT Tryz.prog 140 = some 3 := by kernel_rfl
theorem by140 : byT Tryz.prog 140 = some 40 := by kernel_rfl
theorem zc140 : zcells Tryz.prog 140 = some (([.slice [] 0 true, .int .i64 0, .int .i64 0] : List PV)) := by kernel_rfl
theorem sz141 : szT Tryz.prog 141 = some 3 := by kernel_rfl
theorem by141 : byT Tryz.prog 141 = some 40 := by kernel_rfl
theorem zc141 : zcells Tryz.prog 141 = some (([.slice [] 0 true, .int .i64 0, .int .i64 0] : List PV)) := by kernel_rfl
theorem sz142 : szT Tryz.prog 142 = some 1 := by kernel_rfl
theorem by142 : byT Tryz.prog 142 = some 8 := by kernel_rfl
theorem sz143 : szT Tryz.prog 143 = some 1 := by kernel_rfl
theorem by143 : byT Tryz.prog 143 = some 8 := by kernel_rfl
theorem zc143 : zcells Tryz.prog 143 = some (([.nilp] : List PV)) := by kernel_rfl
theorem sz144 : szT Tryz.prog 144 = some 1 := by kernel_rfl
theorem by144 : byT Tryz.prog 144 = some 0 := by kernel_rfl
theorem sz145 : szT Tryz.prog 145 = some 1 := by kernel_rfl
theorem by145 : byT Tryz.prog 145 = some 8 := by kernel_rfl
theorem sz146 : szT Tryz.prog 146 = some 2 := by kernel_rfl
theorem by146 : byT Tryz.prog 146 = some 32 := by kernel_rfl
theorem zc146 : zcells Tryz.prog 146 = some (([.slice [] 0 true, .int .i64 0] : List PV)) := by kernel_rfl
theorem sz147 : szT Tryz.prog 147 = some 2 := by kernel_rfl
theorem by147 : byT Tryz.prog 147 = some 32 := by kernel_rfl
theorem zc147 : zcells Tryz.prog 147 = some (([.slice [] 0 true, .int .i64 0] : List PV)) := by kernel_rfl
theorem sz148 : szT Tryz.prog 148 = some 1 := by kernel_rfl
theorem by148 : byT Tryz.prog 148 = some 8 := by kernel_rfl
theorem sz149 : szT Tryz.prog 149 = some 1 := by kernel_rfl
theorem by149 : byT Tryz.prog 149 = some 8 := by kernel_rfl
theorem sz150 : szT Tryz.prog 150 = some 1 := by kernel_rfl
theorem by150 : byT Tryz.prog 150 = some 8 := by kernel_rfl
theorem sz151 : szT Tryz.prog 151 = some 1 := by kernel_rfl
theorem by151 : byT Tryz.prog 151 = some 8 := by kernel_rfl
theorem zc151 : zcells Tryz.prog 151 = some (([.nilp] : List PV)) := by kernel_rfl
theorem sz152 : szT Tryz.prog 152 = some 1 := by kernel_rfl
theorem by152 : byT Tryz.prog 152 = some 0 := by kernel_rfl
theorem sz153 : szT Tryz.prog 153 = some 1 := by kernel_rfl
theorem by153 : byT Tryz.prog 153 = some 8 := by kernel_rfl
theorem sz154 : szT Tryz.prog 154 = some 1 := by kernel_rfl
theorem by154 : byT Tryz.prog 154 = some 8 := by kernel_rfl
theorem sz155 : szT Tryz.prog 155 = some 1 := by kernel_rfl
theorem by155 : byT Tryz.prog 155 = some 8 := by kernel_rfl
theorem sz156 : szT Tryz.prog 156 = some 1 := by kernel_rfl
theorem by156 : byT Tryz.prog 156 = some 0 := by kernel_rfl
theorem sz157 : szT Tryz.prog 157 = some 1 := by kernel_rfl
theorem by157 : byT Tryz.prog 157 = some 8 := by kernel_rfl
theorem sz158 : szT Tryz.prog 158 = some 1 := by kernel_rfl
theorem by158 : byT Tryz.prog 158 = some 8 := by kernel_rfl
theorem sz159 : szT Tryz.prog 159 = some 1 := by kernel_rfl
theorem by159 : byT Tryz.prog 159 = some 8 := by kernel_rfl
theorem sz160 : szT Tryz.prog 160 = some 1 := by kernel_rfl
theorem by160 : byT Tryz.prog 160 = some 8 := by kernel_rfl
theorem sz161 : szT Tryz.prog 161 = some 1 := by kernel_rfl
theorem by161 : byT Tryz.prog 161 = some 8 := by kernel_rfl
theorem sz162 : szT Tryz.prog 162 = some 1 := by kernel_rfl
theorem by162 : byT Tryz.prog 162 = some 0 := by kernel_rfl
theorem sz163 : szT Tryz.prog 163 = some 1 := by kernel_rfl
theorem by163 : byT Tryz.prog 163 = some 8 := by kernel_rfl
theorem sz164 : szT Tryz.prog 164 = some 6 := by kernel_rfl
theorem by164 : byT Tryz.prog 164 = some 64 := by kernel_rfl
theorem zc164 : zcells Tryz.prog 164 = some (([.slice [] 0 true, .int .i64 0, .int .i64 0, .bool false, .int .i64 0, .int .i64 0] : List PV)) := by kernel_rfl
theorem sz165 : szT Tryz.prog 165 = some 6 := by kernel_rfl
theorem by165 : byT Tryz.prog 165 = some 64 := by kernel_rfl
theorem zc165 : zcells Tryz.prog 165 = some (([.slice [] 0 true, .int .i64 0, .int .i64 0, .bool false, .int .i64 0, .int .i64 0] : List PV)) := by kernel_rfl
theorem sz166 : szT Tryz.prog 166 = some 1 := by kernel_rfl
theorem by166 : byT Tryz.prog 166 = some 8 := by kernel_rfl
theorem sz167 : szT Tryz.prog 167 = some 1 := by kernel_rfl
theorem by167 : byT Tryz.prog 167 = some 8 := by kernel_rfl
theorem sz168 : szT Tryz.prog 168 = some 1 := by kernel_rfl
theorem by168 : byT Tryz.prog 168 = some 8 := by kernel_rfl
theorem sz169 : szT Tryz.prog 169 = some 145 := by kernel_rfl
theorem by169 : byT Tryz.prog 169 = some 248 := by kernel_rfl
theorem zc169 : zcells Tryz.prog 169 = some (([.int .i64 0, .int .i64 0, .int .i64 0, .int .i64 0, .int .i64 0, .int .i64 0, .bool false, .int .i64 0, .int .i64 0] : List PV) ++ (List.replicate 128 (PV.int .u8 0) : List PV) ++ ([.int .i64 0, .int .i64 0, .int .i64 0, .bool false, .bool false, .bool false, .bool false, .int .i64 0] : List PV)) := by kernel_rfl
theorem sz170 : szT Tryz.prog 170 = some 145 := by kernel_rfl
theorem by170 : byT Tryz.prog 170 = some 248 := by kernel_rfl
theorem zc170 : zcells Tryz.prog 170 = some (([.int .i64 0, .int .i64 0, .int .i64 0, .int .i64 0, .int .i64 0, .int .i64 0, .bool false, .int .i64 0, .int .i64 0] : List PV) ++ (List.replicate 128 (PV.int .u8 0) : List PV) ++ ([.int .i64 0, .int .i64 0, .int .i64 0, .bool false, .bool false, .bool false, .bool false, .int .i64 0] : List PV)) := by kernel_rfl
theorem sz171 : szT Tryz.prog 171 = some 1 := by kernel_rfl
theorem by171 : byT Tryz.prog 171 = some 8 := by kernel_rfl
theorem sz172 : szT Tryz.prog 172 = some 1 := by kernel_rfl
theorem by172 : byT Tryz.prog 172 = some 8 := by kernel_rfl
theorem sz173 : szT Tryz.prog 173 = some 1 := by kernel_rfl
theorem by173 : byT Tryz.prog 173 = some 8 := by kernel_rfl
theorem zc173 : zcells Tryz.prog 173 = some (([.int .u64 0] : List PV)) := by kernel_rfl
theorem sz174 : szT Tryz.prog 174 = some 1 := by kernel_rfl
theorem by174 : byT Tryz.prog 174 = some 8 := by kernel_rfl
theorem sz175 : szT Tryz.prog 175 = some 1 := by kernel_rfl
theorem by175 : byT Tryz.prog 175 = some 8 := by kernel_rfl
theorem sz176 : szT Tryz.prog 176 = some 1 := by kernel_rfl
theorem by176 : byT Tryz.prog 176 = some 8 := by kernel_rfl
theorem sz177 : szT Tryz.prog 177 = some 1 := by kernel_rfl
theorem by177 : byT Tryz.prog 177 = some 8 := by kernel_rfl
theorem sz178 : szT Tryz.prog 178 = some 1 := by kernel_rfl
theorem by178 : byT Tryz.prog 178 = some 8 := by kernel_rfl
theorem sz179 : szT Tryz.prog 179 = some 1 := by kernel_rfl
theorem by179 : byT Tryz.prog 179 = some 8 := by kernel_rfl
theorem zc179 : zcells Tryz.prog 179 = some (([.int .i64 0] : List PV)) := by kernel_rfl
theorem sz180 : szT Tryz.prog 180 = some 1 := by kernel_rfl
theorem by180 : byT Tryz.prog 180 = some 0 := by kernel_rfl
theorem sz181 : szT Tryz.prog 181 = some 1 := by kernel_rfl
theorem by181 : byT Tryz.prog 181 = some 8 := by kernel_rfl
theorem sz182 : szT Tryz.prog 182 = some 1 := by kernel_rfl
theorem by182 : byT Tryz.prog 182 = some 8 := by kernel_rfl
theorem sz183 : szT Tryz.prog 183 = some 1 := by kernel_rfl
theorem by183 : byT Tryz.prog 183 = some 8 := by kernel_rfl
theorem sz184 : szT Tryz.prog 184 = some 1 := by kernel_rfl
theorem by184 : byT Tryz.prog 184 = some 0 := by kernel_rfl
theorem sz185 : szT Tryz.prog 185 = some 1 := by kernel_rfl
theorem by185 : byT Tryz.prog 185 = some 8 := by kernel_rfl
theorem sz186 : szT Tryz.prog 186 = some 1 := by kernel_rfl
theorem by186 : byT Tryz.prog 186 = some 8 := by kernel_rfl
theorem sz187 : szT Tryz.prog 187 = some 1 := by kernel_rfl
theorem by187 : byT Tryz.prog 187 = some 8 := by kernel_rfl
theorem sz188 : szT Tryz.prog 188 = some 1 := by kernel_rfl
theorem by188 : byT Tryz.prog 188 = some 8 := by kernel_rfl
theorem sz189 : szT Tryz.prog 189 = some 1 := by kernel_rfl
theorem by189 : byT Tryz.prog 189 = some 8 := by kernel_rfl
theorem sz190 : szT Tryz.prog 190 = some 1 := by kernel_rfl
theorem by190 : byT Tryz.prog 190 = some 24 := by kernel_rfl
theorem zc190 : zcells Tryz.prog 190 = some (([.slice [] 0 true] : List PV)) := by kernel_rfl
theorem sz191 : szT Tryz.prog 191 = some 1 := by kernel_rfl
theorem by191 : byT Tryz.prog 191 = some 8 := by kernel_rfl
theorem sz192 : szT Tryz.prog 192 = some 139 := by kernel_rfl
theorem by192 : byT Tryz.prog 192 = some 216 := by kernel_rfl
theorem zc192 : zcells Tryz.prog 192 = some (([.int .i64 0, .int .i64 0, .int .i64 0, .int .i64 0, .bool false, .int .i64 0, .int .i64 0] : List PV) ++ (List.replicate 128 (PV.int .u8 0) : List PV) ++ ([.bool false, .int .i64 0, .bool false, .int .i64 0] : List PV)) := by kernel_rfl
theorem sz193 : szT Tryz.prog 193 = some 139 := by kernel_rfl
theorem by193 : byT Tryz.prog 193 = some 216 := by kernel_rfl
theorem zc193 : zcells Tryz.prog 193 = some (([.int .i64 0, .int .i64 0, .int .i64 0, .int .i64 0, .bool false, .int .i64 0, .int .i64 0] : List PV) ++ (List.replicate 128 (PV.int .u8 0) : List PV) ++ ([.bool false, .int .i64 0, .bool false, .int .i64 0] : List PV)) := by kernel_rfl
theorem sz194 : szT Tryz.prog 194 = some 1 := by kernel_rfl
theorem by194 : byT Tryz.prog 194 = some 0 := by kernel_rfl
theorem sz195 : szT Tryz.prog 195 = some 1 := by kernel_rfl
theorem by195 : byT Tryz.prog 195 = some 8 := by kernel_rfl
theorem sz196 : szT Tryz.prog 196 = some 1 := by kernel_rfl
theorem by196 : byT Tryz.prog 196 = some 8 := by kernel_rfl
theorem zc196 : zcells Tryz.prog 196 = some (([.nilp] : List PV)) := by kernel_rfl
theorem sz197 : szT Tryz.prog 197 = some 1 := by kernel_rfl
theorem by197 : byT Tryz.prog 197 = some 8 := by kernel_rfl
theorem zc197 : zcells Tryz.prog 197 = some (([.nilp] : List PV)) := by kernel_rfl
theorem sz198 : szT Tryz.prog 198 = some 1 := by kernel_rfl
theorem by198 : byT Tryz.prog 198 = some 8 := by kernel_rfl
theorem sz199 : szT Tryz.prog 199 = some 1 := by kernel_rfl
theorem by199 : byT Tryz.prog 199 = some 24 := by kernel_rfl
theorem zc199 : zcells Tryz.prog 199 = some (([.slice [] 0 true] : List PV)) := by kernel_rfl
theorem sz200 : szT Tryz.prog 200 = some 1 := by kernel_rfl
theorem by200 : byT Tryz.prog 200 = some 8 := by kernel_rfl
theorem zc200 : zcells Tryz.prog 200 = some (([.int .u64 0] : List PV)) := by kernel_rfl
theorem sz201 : szT Tryz.prog 201 = some 1 := by kernel_rfl
theorem by201 : byT Tryz.prog 201 = some 8 := by kernel_rfl
theorem sz202 : szT Tryz.prog 202 = some 1 := by kernel_rfl
theorem by202 : byT Tryz.prog 202 = some 8 := by kernel_rfl
theorem sz203 : szT Tryz.prog 203 = some 1 := by kernel_rfl
theorem by203 : byT Tryz.prog 203 = some 8 := by kernel_rfl
theorem sz204 : szT Tryz.prog 204 = some 1 := by kernel_rfl
theorem by204 : byT Tryz.prog 204 = some 8 := by kernel_rfl
theorem zc204 : zcells Tryz.prog 204 = some (([.nilp] : List PV)) := by kernel_rfl
theorem sz205 : szT Tryz.prog 205 = some 1 := by kernel_rfl
theorem by205 : byT Tryz.prog 205 = some 8 := by kernel_rfl
theorem sz206 : szT Tryz.prog 206 = some 1 := by kernel_rfl
theorem by206 : byT Tryz.prog 206 = some 8 := by kernel_rfl
theorem sz207 : szT Tryz.prog 207 = some 1 := by kernel_rfl
theorem by207 : byT Tryz.prog 207 = some 8 := by kernel_rfl
theorem zc207 : zcells Tryz.prog 207 = some (([.nilp] : List PV)) := by kernel_rfl
theorem sz208 : szT Tryz.prog 208 = some 1 := by kernel_rfl
theorem by208 : byT Tryz.prog 208 = some 8 := by kernel_rfl
theorem zc208 : zcells Tryz.prog 208 = some (([.nilp] : List PV)) := by kernel_rfl
theorem sz209 : szT Tryz.prog 209 = some 1 := by kernel_rfl
theorem by209 : byT Tryz.prog 209 = some 8 := by kernel_rfl
theorem sz210 : szT Tryz.prog 210 = some 1 := by kernel_rfl
theorem by210 : byT Tryz.prog 210 = some 8 := by kernel_rfl
theorem sz211 : szT Tryz.prog 211 = some 1 := by kernel_rfl
theorem by211 : byT Tryz.prog 211 = some 8 := by kernel_rfl
theorem sz212 : szT Tryz.prog 212 = some 1 := by kernel_rfl
theorem by212 : byT Tryz.prog 212 = some 8 := by kernel_rfl
theorem sz213 : szT Tryz.prog 213 = some 1 := by kernel_rfl
theorem by213 : byT Tryz.prog 213 = some 8 := by kernel_rfl
theorem zc213 : zcells Tryz.prog 213 = some (([.nilp] : List PV)) := by kernel_rfl
theorem sz214 : szT Tryz.prog 214 = some 1 := by kernel_rfl
theorem by214 : byT Tryz.prog 214 = some 0 := by kernel_rfl
theorem sz215 : szT Tryz.prog 215 = some 1 := by kernel_rfl
theorem by215 : byT Tryz.prog 215 = some 8 := by kernel_rfl
theorem sz216 : szT Tryz.prog 216 = some 1 := by kernel_rfl
theorem by216 : byT Tryz.prog 216 = some 8 := by kernel_rfl
theorem sz217 : szT Tryz.prog 217 = some 1 := by kernel_rfl
theorem by217 : byT Tryz.prog 217 = some 8 := by kernel_rfl
theorem sz218 : szT Tryz.prog 218 = some 1 := by kernel_rfl
theorem by218 : byT Tryz.prog 218 = some 8 := by kernel_rfl
theorem sz219 : szT Tryz.prog 219 = some 1 := by kernel_rfl
theorem by219 : byT Tryz.prog 219 = some 8 := by kernel_rfl
theorem sz220 : szT Tryz.prog 220 = some 1 := by kernel_rfl
theorem by220 : byT Tryz.prog 220 = some 8 := by kernel_rfl
theorem sz221 : szT Tryz.prog 221 = some 1 := by kernel_rfl
theorem by221 : byT Tryz.prog 221 = some 8 := by kernel_rfl
theorem sz222 : szT Tryz.prog 222 = some 1 := by kernel_rfl
theorem by222 : byT Tryz.prog 222 = some 8 := by kernel_rfl
theorem sz223 : szT Tryz.prog 223 = some 1 := by kernel_rfl
theorem by223 : byT Tryz.prog 223 = some 8 := by kernel_rfl
theorem sz224 : szT Tryz.prog 224 = some 1 := by kernel_rfl
theorem by224 : byT Tryz.prog 224 = some 8 := by kernel_rfl
theorem sz225 : szT Tryz.prog 225 = some 1 := by kernel_rfl
theorem by225 : byT Tryz.prog 225 = some 8 := by kernel_rfl
theorem sz226 : szT Tryz.prog 226 = some 4 := by kernel_rfl
theorem by226 : byT Tryz.prog 226 = some 40 := by kernel_rfl
theorem zc226 : zcells Tryz.prog 226 = some (([.nilp, .nilp, .nilp, .str []] : List PV)) := by kernel_rfl
theorem sz227 : szT Tryz.prog 227 = some 4 := by kernel_rfl
theorem by227 : byT Tryz.prog 227 = some 40 := by kernel_rfl
theorem zc227 : zcells Tryz.prog 227 = some (([.nilp, .nilp, .nilp, .str []] : List PV)) := by kernel_rfl
theorem sz228 : szT Tryz.prog 228 = some 0 := by kernel_rfl
theorem by228 : byT Tryz.prog 228 = some 0 := by kernel_rfl
theorem zc228 : zcells Tryz.prog 228 = some (([] : List PV)) := by kernel_rfl
theorem sz229 : szT Tryz.prog 229 = some 0 := by kernel_rfl
theorem by229 : byT Tryz.prog 229 = some 0 := by kernel_rfl
theorem zc229 : zcells Tryz.prog 229 = some (([] : List PV)) := by kernel_rfl
theorem sz230 : szT Tryz.prog 230 = some 0 := by kernel_rfl
theorem by230 : byT Tryz.prog 230 = some 0 := by kernel_rfl
theorem zc230 : zcells Tryz.prog 230 = some (([] : List PV)) := by kernel_rfl
theorem sz231 : szT Tryz.prog 231 = some 1 := by kernel_rfl
theorem by231 : byT Tryz.prog 231 = some 1 := by kernel_rfl
theorem zc231 : zcells Tryz.prog 231 = some (([.int .u8 0] : List PV)) := by kernel_rfl
theorem sz232 : szT Tryz.prog 232 = some 1 := by kernel_rfl
theorem by232 : byT Tryz.prog 232 = some 1 := by kernel_rfl
theorem zc232 : zcells Tryz.prog 232 = some (([.int .u8 0] : List PV)) := by kernel_rfl
theorem sz233 : szT Tryz.prog 233 = some 1 := by kernel_rfl
theorem by233 : byT Tryz.prog 233 = some 8 := by kernel_rfl
theorem sz234 : szT Tryz.prog 234 = some 1 := by kernel_rfl
theorem by234 : byT Tryz.prog 234 = some 8 := by kernel_rfl
theorem zc234 : zcells Tryz.prog 234 = some (([.nilp] : List PV)) := by kernel_rfl
theorem sz235 : szT Tryz.prog 235 = some 1 := by kernel_rfl
theorem by235 : byT Tryz.prog 235 = some 4 := by kernel_rfl
theorem zc235 : zcells Tryz.prog 235 = some (([.int .i32 0] : List PV)) := by kernel_rfl
theorem sz236 : szT Tryz.prog 236 = some 1 := by kernel_rfl
theorem by236 : byT Tryz.prog 236 = some 4 := by kernel_rfl
theorem zc236 : zcells Tryz.prog 236 = some (([.int .i32 0] : List PV)) := by kernel_rfl
theorem sz237 : szT Tryz.prog 237 = some 11 := by kernel_rfl
theorem by237 : byT Tryz.prog 237 = some 48 := by kernel_rfl
theorem sz238 : szT Tryz.prog 238 = some 11 := by kernel_rfl
theorem by238 : byT Tryz.prog 238 = some 48 := by kernel_rfl
theorem sz239 : szT Tryz.prog 239 = some 1 := by kernel_rfl
theorem by239 : byT Tryz.prog 239 = some 8 := by kernel_rfl
theorem zc239 : zcells Tryz.prog 239 = some (([.nilp] : List PV)) := by kernel_rfl
theorem mix : Tryz.prog.follows .mixedOrders = true := by kernel_rfl
attribute [go_sem] sz0 sz1 sz2 sz3 sz4 sz5 sz6 sz7 sz8 sz9 sz10 sz11 sz12 sz13 sz14 sz15 sz16 sz17 sz18 sz19 sz20 sz21 sz22 sz23 sz24 sz25 sz26 sz27 sz28 sz29 sz30 sz31 sz32 sz33 sz34 sz35 sz36 sz37 sz38 sz39
attribute [go_sem] sz40 sz41 sz42 sz43 sz44 sz45 sz46 sz47 sz48 sz49 sz50 sz51 sz52 sz53 sz54 sz55 sz56 sz57 sz58 sz59 sz60 sz61 sz62 sz63 sz64 sz65 sz66 sz67 sz68 sz69 sz70 sz71 sz72 sz73 sz74 sz75 sz76 sz77 sz78 sz79
attribute [go_sem] sz80 sz81 sz82 sz83 sz84 sz85 sz86 sz87 sz88 sz89 sz90 sz91 sz92 sz93 sz94 sz95 sz96 sz97 sz98 sz99 sz100 sz101 sz102 sz103 sz104 sz105 sz106 sz107 sz108 sz109 sz110 sz111 sz112 sz113 sz114 sz115 sz116 sz117 sz118 sz119
attribute [go_sem] sz120 sz121 sz122 sz123 sz124 sz125 sz126 sz127 sz128 sz129 sz130 sz131 sz132 sz133 sz134 sz135 sz136 sz137 sz138 sz139 sz140 sz141 sz142 sz143 sz144 sz145 sz146 sz147 sz148 sz149 sz150 sz151 sz152 sz153 sz154 sz155 sz156 sz157 sz158 sz159
attribute [go_sem] sz160 sz161 sz162 sz163 sz164 sz165 sz166 sz167 sz168 sz169 sz170 sz171 sz172 sz173 sz174 sz175 sz176 sz177 sz178 sz179 sz180 sz181 sz182 sz183 sz184 sz185 sz186 sz187 sz188 sz189 sz190 sz191 sz192 sz193 sz194 sz195 sz196 sz197 sz198 sz199
attribute [go_sem] sz200 sz201 sz202 sz203 sz204 sz205 sz206 sz207 sz208 sz209 sz210 sz211 sz212 sz213 sz214 sz215 sz216 sz217 sz218 sz219 sz220 sz221 sz222 sz223 sz224 sz225 sz226 sz227 sz228 sz229 sz230 sz231 sz232 sz233 sz234 sz235 sz236 sz237 sz238 sz239
attribute [go_sem] by0 by1 by2 by3 by4 by5 by6 by7 by8 by9 by10 by11 by12 by13 by14 by15 by16 by17 by18 by19 by20 by21 by22 by23 by24 by25 by26 by27 by28 by29 by30 by31 by32 by33 by34 by35 by36 by37 by38 by39
attribute [go_sem] by40 by41 by42 by43 by44 by45 by46 by47 by48 by49 by50 by51 by52 by53 by54 by55 by56 by57 by58 by59 by60 by61 by62 by63 by64 by65 by66 by67 by68 by69 by70 by71 by72 by73 by74 by75 by76 by77 by78 by79
attribute [go_sem] by80 by81 by82 by83 by84 by85 by86 by87 by88 by89 by90 by91 by92 by93 by94 by95 by96 by97 by98 by99 by100 by101 by102 by103 by104 by105 by106 by107 by108 by109 by110 by111 by112 by113 by114 by115 by116 by117 by118 by119
attribute [go_sem] by120 by121 by122 by123 by124 by125 by126 by127 by128 by129 by130 by131 by132 by133 by134 by135 by136 by137 by138 by139 by140 by141 by142 by143 by144 by145 by146 by147 by148 by149 by150 by151 by152 by153 by154 by155 by156 by157 by158 by159
attribute [go_sem] by160 by161 by162 by163 by164 by165 by166 by167 by168 by169 by170 by171 by172 by173 by174 by175 by176 by177 by178 by179 by180 by181 by182 by183 by184 by185 by186 by187 by188 by189 by190 by191 by192 by193 by194 by195 by196 by197 by198 by199
attribute [go_sem] by200 by201 by202 by203 by204 by205 by206 by207 by208 by209 by210 by211 by212 by213 by214 by215 by216 by217 by218 by219 by220 by221 by222 by223 by224 by225 by226 by227 by228 by229 by230 by231 by232 by233 by234 by235 by236 by237 by238 by239
attribute [go_sem] zc2 zc3 zc4 zc5 zc6 zc7 zc8 zc9 zc10 zc11 zc12 zc13 zc14 zc15 zc16 zc17 zc18 zc19 zc21 zc22 zc23 zc24 zc25 zc26 zc27 zc28 zc29 zc30 zc31 zc32 zc44 zc45 zc48 zc57 zc58 zc59 zc60 zc61 zc62 zc63
attribute [go_sem] zc64 zc68 zc70 zc72 zc73 zc74 zc76 zc79 zc88 zc91 zc92 zc96 zc101 zc104 zc105 zc106 zc107 zc108 zc109 zc113 zc116 zc120 zc122 zc125 zc127 zc128 zc129 zc130 zc135 zc136 zc137 zc139 zc140 zc141 zc143 zc146 zc147 zc151 zc164 zc165
attribute [go_sem] zc169 zc170 zc173 zc179 zc190 zc192 zc193 zc196 zc197 zc199 zc200 zc204 zc207 zc208 zc213 zc226 zc227 zc228 zc229 zc230 zc231 zc232 zc234 zc235 zc236 zc239 Tryz.underlying0 Tryz.underlying1 Tryz.underlying2 Tryz.underlying3 Tryz.underlying4 Tryz.underlying5 Tryz.underlying6 Tryz.underlying7 Tryz.underlying8 Tryz.underlying9 Tryz.underlying10 Tryz.underlying11 Tryz.underlying12 Tryz.underlying13
attribute [go_sem] Tryz.underlying14 Tryz.underlying15 Tryz.underlying16 Tryz.underlying17 Tryz.underlying18 Tryz.underlying19 Tryz.underlying20 Tryz.underlying21 Tryz.underlying22 Tryz.underlying23 Tryz.underlying24 Tryz.underlying25 Tryz.underlying26 Tryz.underlying27 Tryz.underlying28 Tryz.underlying29 Tryz.underlying30 Tryz.underlying31 Tryz.underlying32 Tryz.underlying33 Tryz.underlying34 Tryz.underlying35 Tryz.underlying36 Tryz.underlying37 Tryz.underlying38 Tryz.underlying39 Tryz.underlying40 Tryz.underlying41 Tryz.underlying42 Tryz.underlying43 Tryz.underlying44 Tryz.underlying45 Tryz.underlying46 Tryz.underlying47 Tryz.underlying48 Tryz.underlying49 Tryz.underlying50 Tryz.underlying51 Tryz.underlying52 Tryz.underlying53
attribute [go_sem] Tryz.underlying54 Tryz.underlying55 Tryz.underlying56 Tryz.underlying57 Tryz.underlying58 Tryz.underlying59 Tryz.underlying60 Tryz.underlying61 Tryz.underlying62 Tryz.underlying63 Tryz.underlying64 Tryz.underlying65 Tryz.underlying66 Tryz.underlying67 Tryz.underlying68 Tryz.underlying69 Tryz.underlying70 Tryz.underlying71 Tryz.underlying72 Tryz.underlying73 Tryz.underlying74 Tryz.underlying75 Tryz.underlying76 Tryz.underlying77 Tryz.underlying78 Tryz.underlying79 Tryz.underlying80 Tryz.underlying81 Tryz.underlying82 Tryz.underlying83 Tryz.underlying84 Tryz.underlying85 Tryz.underlying86 Tryz.underlying87 Tryz.underlying88 Tryz.underlying89 Tryz.underlying90 Tryz.underlying91 Tryz.underlying92 Tryz.underlying93
attribute [go_sem] Tryz.underlying94 Tryz.underlying95 Tryz.underlying96 Tryz.underlying97 Tryz.underlying98 Tryz.underlying99 Tryz.underlying100 Tryz.underlying101 Tryz.underlying102 Tryz.underlying103 Tryz.underlying104 Tryz.underlying105 Tryz.underlying106 Tryz.underlying107 Tryz.underlying108 Tryz.underlying109 Tryz.underlying110 Tryz.underlying111 Tryz.underlying112 Tryz.underlying113 Tryz.underlying114 Tryz.underlying115 Tryz.underlying116 Tryz.underlying117 Tryz.underlying118 Tryz.underlying119 Tryz.underlying120 Tryz.underlying121 Tryz.underlying122 Tryz.underlying123 Tryz.underlying124 Tryz.underlying125 Tryz.underlying126 Tryz.underlying127 Tryz.underlying128 Tryz.underlying129 Tryz.underlying130 Tryz.underlying131 Tryz.underlying132 Tryz.underlying133
attribute [go_sem] Tryz.underlying134 Tryz.underlying135 Tryz.underlying136 Tryz.underlying137 Tryz.underlying138 Tryz.underlying139 Tryz.underlying140 Tryz.underlying141 Tryz.underlying142 Tryz.underlying143 Tryz.underlying144 Tryz.underlying145 Tryz.underlying146 Tryz.underlying147 Tryz.underlying148 Tryz.underlying149 Tryz.underlying150 Tryz.underlying151 Tryz.underlying152 Tryz.underlying153 Tryz.underlying154 Tryz.underlying155 Tryz.underlying156 Tryz.underlying157 Tryz.underlying158 Tryz.underlying159 Tryz.underlying160 Tryz.underlying161 Tryz.underlying162 Tryz.underlying163 Tryz.underlying164 Tryz.underlying165 Tryz.underlying166 Tryz.underlying167 Tryz.underlying168 Tryz.underlying169 Tryz.underlying170 Tryz.underlying171 Tryz.underlying172 Tryz.underlying173
attribute [go_sem] Tryz.underlying174 Tryz.underlying175 Tryz.underlying176 Tryz.underlying177 Tryz.underlying178 Tryz.underlying179 Tryz.underlying180 Tryz.underlying181 Tryz.underlying182 Tryz.underlying183 Tryz.underlying184 Tryz.underlying185 Tryz.underlying186 Tryz.underlying187 Tryz.underlying188 Tryz.underlying189 Tryz.underlying190 Tryz.underlying191 Tryz.underlying192 Tryz.underlying193 Tryz.underlying194 Tryz.underlying195 Tryz.underlying196 Tryz.underlying197 Tryz.underlying198 Tryz.underlying199 Tryz.underlying200 Tryz.underlying201 Tryz.underlying202 Tryz.underlying203 Tryz.underlying204 Tryz.underlying205 Tryz.underlying206 Tryz.underlying207 Tryz.underlying208 Tryz.underlying209 Tryz.underlying210 Tryz.underlying211 Tryz.underlying212 Tryz.underlying213
attribute [go_sem] Tryz.underlying214 Tryz.underlying215 Tryz.underlying216 Tryz.underlying217 Tryz.underlying218 Tryz.underlying219 Tryz.underlying220 Tryz.underlying221 Tryz.underlying222 Tryz.underlying223 Tryz.underlying224 Tryz.underlying225 Tryz.underlying226 Tryz.underlying227 Tryz.underlying228 Tryz.underlying229 Tryz.underlying230 Tryz.underlying231 Tryz.underlying232 Tryz.underlying233 Tryz.underlying234 Tryz.underlying235 Tryz.underlying236 Tryz.underlying237 Tryz.underlying238 Tryz.underlying239 Tryz.eqGuardType24 Tryz.eqGuardType137 Tryz.eqGuardType228
end Go.Proofs.YtnnkohejhnjflaaGreatDoor.Ty
