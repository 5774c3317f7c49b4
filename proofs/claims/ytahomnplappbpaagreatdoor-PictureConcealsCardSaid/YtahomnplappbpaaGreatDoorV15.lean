/-
  Parts of the proof, put together in one text. No condition.
-/
import Derived.Test.YtahomnplappbpaaGreatDoorV14
import Derived.Test.YtahomnplappbpaaGreatDoorProg
import Derived.KernelRfl
namespace Go.Proofs.YtahomnplappbpaaGreatDoor.Ty
open Pm
theorem sz0 : szT Tryz.prog 0 = some 1 := by kernel_rfl
theorem by0 : byT Tryz.prog 0 = some 0 := by kernel_rfl
theorem sz1 : szT Tryz.prog 1 = some 1 := by kernel_rfl
theorem by1 : byT Tryz.prog 1 = some 8 := by kernel_rfl
theorem sz2 : szT Tryz.prog 2 = some 1 := by kernel_rfl
theorem by2 : byT Tryz.prog 2 = some 8 := by kernel_rfl
theorem zc2 : zcells Tryz.prog 2 = some (([.int .i64 0] : List PV)) := by kernel_rfl
theorem sz3 : szT Tryz.prog 3 = some 1 := by kernel_rfl
theorem by3 : byT Tryz.prog 3 = some 8 := by kernel_rfl
theorem zc3 : zcells Tryz.prog 3 = some (([.int .i64 0] : List PV)) := by kernel_rfl
theorem sz4 : szT Tryz.prog 4 = some 1 := by kernel_rfl
theorem by4 : byT Tryz.prog 4 = some 1 := by kernel_rfl
theorem zc4 : zcells Tryz.prog 4 = some (([.bool false] : List PV)) := by kernel_rfl
theorem sz5 : szT Tryz.prog 5 = some 1 := by kernel_rfl
theorem by5 : byT Tryz.prog 5 = some 1 := by kernel_rfl
theorem zc5 : zcells Tryz.prog 5 = some (([.int .u8 0] : List PV)) := by kernel_rfl
theorem sz6 : szT Tryz.prog 6 = some 1 := by kernel_rfl
theorem by6 : byT Tryz.prog 6 = some 1 := by kernel_rfl
theorem zc6 : zcells Tryz.prog 6 = some (([.int .u8 0] : List PV)) := by kernel_rfl
theorem sz7 : szT Tryz.prog 7 = some 4 := by kernel_rfl
theorem by7 : byT Tryz.prog 7 = some 24 := by kernel_rfl
theorem zc7 : zcells Tryz.prog 7 = some (([.int .i64 0, .int .i64 0, .bool false, .int .u8 0] : List PV)) := by kernel_rfl
theorem sz8 : szT Tryz.prog 8 = some 4 := by kernel_rfl
theorem by8 : byT Tryz.prog 8 = some 24 := by kernel_rfl
theorem zc8 : zcells Tryz.prog 8 = some (([.int .i64 0, .int .i64 0, .bool false, .int .u8 0] : List PV)) := by kernel_rfl
theorem sz9 : szT Tryz.prog 9 = some 1 := by kernel_rfl
theorem by9 : byT Tryz.prog 9 = some 16 := by kernel_rfl
theorem zc9 : zcells Tryz.prog 9 = some (([.str []] : List PV)) := by kernel_rfl
theorem sz10 : szT Tryz.prog 10 = some 1 := by kernel_rfl
theorem by10 : byT Tryz.prog 10 = some 16 := by kernel_rfl
theorem zc10 : zcells Tryz.prog 10 = some (([.str []] : List PV)) := by kernel_rfl
theorem sz11 : szT Tryz.prog 11 = some 1 := by kernel_rfl
theorem by11 : byT Tryz.prog 11 = some 16 := by kernel_rfl
theorem zc11 : zcells Tryz.prog 11 = some (([.str []] : List PV)) := by kernel_rfl
theorem sz12 : szT Tryz.prog 12 = some 1 := by kernel_rfl
theorem by12 : byT Tryz.prog 12 = some 8 := by kernel_rfl
theorem zc12 : zcells Tryz.prog 12 = some (([.int .u64 0] : List PV)) := by kernel_rfl
theorem sz13 : szT Tryz.prog 13 = some 2 := by kernel_rfl
theorem by13 : byT Tryz.prog 13 = some 24 := by kernel_rfl
theorem zc13 : zcells Tryz.prog 13 = some (([.str [], .int .u64 0] : List PV)) := by kernel_rfl
theorem sz14 : szT Tryz.prog 14 = some 2 := by kernel_rfl
theorem by14 : byT Tryz.prog 14 = some 24 := by kernel_rfl
theorem zc14 : zcells Tryz.prog 14 = some (([.str [], .int .u64 0] : List PV)) := by kernel_rfl
theorem sz15 : szT Tryz.prog 15 = some 1 := by kernel_rfl
theorem by15 : byT Tryz.prog 15 = some 8 := by kernel_rfl
theorem zc15 : zcells Tryz.prog 15 = some (([.nilp] : List PV)) := by kernel_rfl
theorem sz16 : szT Tryz.prog 16 = some 1 := by kernel_rfl
theorem by16 : byT Tryz.prog 16 = some 8 := by kernel_rfl
theorem zc16 : zcells Tryz.prog 16 = some (([.nilp] : List PV)) := by kernel_rfl
theorem sz17 : szT Tryz.prog 17 = some 1 := by kernel_rfl
theorem by17 : byT Tryz.prog 17 = some 8 := by kernel_rfl
theorem zc17 : zcells Tryz.prog 17 = some (([.nilp] : List PV)) := by kernel_rfl
theorem sz18 : szT Tryz.prog 18 = some 1 := by kernel_rfl
theorem by18 : byT Tryz.prog 18 = some 8 := by kernel_rfl
theorem zc18 : zcells Tryz.prog 18 = some (([.nilp] : List PV)) := by kernel_rfl
theorem sz19 : szT Tryz.prog 19 = some 1 := by kernel_rfl
theorem by19 : byT Tryz.prog 19 = some 8 := by kernel_rfl
theorem zc19 : zcells Tryz.prog 19 = some (([.nilp] : List PV)) := by kernel_rfl
theorem sz20 : szT Tryz.prog 20 = some 1 := by kernel_rfl
theorem by20 : byT Tryz.prog 20 = some 16 := by kernel_rfl
theorem sz21 : szT Tryz.prog 21 = some 1 := by kernel_rfl
theorem by21 : byT Tryz.prog 21 = some 4 := by kernel_rfl
theorem zc21 : zcells Tryz.prog 21 = some (([.int .i32 0] : List PV)) := by kernel_rfl
theorem sz22 : szT Tryz.prog 22 = some 1 := by kernel_rfl
theorem by22 : byT Tryz.prog 22 = some 24 := by kernel_rfl
theorem zc22 : zcells Tryz.prog 22 = some (([.slice [] 0 true] : List PV)) := by kernel_rfl
theorem sz23 : szT Tryz.prog 23 = some 1 := by kernel_rfl
theorem by23 : byT Tryz.prog 23 = some 8 := by kernel_rfl
theorem sz24 : szT Tryz.prog 24 = some 1 := by kernel_rfl
theorem by24 : byT Tryz.prog 24 = some 24 := by kernel_rfl
theorem zc24 : zcells Tryz.prog 24 = some (([.slice [] 0 true] : List PV)) := by kernel_rfl
theorem sz25 : szT Tryz.prog 25 = some 1 := by kernel_rfl
theorem by25 : byT Tryz.prog 25 = some 8 := by kernel_rfl
theorem sz26 : szT Tryz.prog 26 = some 1 := by kernel_rfl
theorem by26 : byT Tryz.prog 26 = some 24 := by kernel_rfl
theorem zc26 : zcells Tryz.prog 26 = some (([.slice [] 0 true] : List PV)) := by kernel_rfl
theorem sz27 : szT Tryz.prog 27 = some 1 := by kernel_rfl
theorem by27 : byT Tryz.prog 27 = some 8 := by kernel_rfl
theorem sz28 : szT Tryz.prog 28 = some 6 := by kernel_rfl
theorem by28 : byT Tryz.prog 28 = some 48 := by kernel_rfl
theorem zc28 : zcells Tryz.prog 28 = some (([.int .i64 0, .int .i64 0, .int .i64 0, .int .i64 0, .int .i64 0, .int .i64 0] : List PV)) := by kernel_rfl
theorem sz29 : szT Tryz.prog 29 = some 6 := by kernel_rfl
theorem by29 : byT Tryz.prog 29 = some 48 := by kernel_rfl
theorem zc29 : zcells Tryz.prog 29 = some (([.int .i64 0, .int .i64 0, .int .i64 0, .int .i64 0, .int .i64 0, .int .i64 0] : List PV)) := by kernel_rfl
theorem sz30 : szT Tryz.prog 30 = some 6 := by kernel_rfl
theorem by30 : byT Tryz.prog 30 = some 48 := by kernel_rfl
theorem zc30 : zcells Tryz.prog 30 = some (([.int .i64 0, .int .i64 0, .int .i64 0, .int .i64 0, .int .i64 0, .int .i64 0] : List PV)) := by kernel_rfl
theorem sz31 : szT Tryz.prog 31 = some 1 := by kernel_rfl
theorem by31 : byT Tryz.prog 31 = some 8 := by kernel_rfl
theorem sz32 : szT Tryz.prog 32 = some 4 := by kernel_rfl
theorem by32 : byT Tryz.prog 32 = some 24 := by kernel_rfl
theorem zc32 : zcells Tryz.prog 32 = some (([.int .i64 0, .int .i64 0, .bool false, .bool false] : List PV)) := by kernel_rfl
theorem sz33 : szT Tryz.prog 33 = some 4 := by kernel_rfl
theorem by33 : byT Tryz.prog 33 = some 24 := by kernel_rfl
theorem zc33 : zcells Tryz.prog 33 = some (([.int .i64 0, .int .i64 0, .bool false, .bool false] : List PV)) := by kernel_rfl
theorem sz34 : szT Tryz.prog 34 = some 2 := by kernel_rfl
theorem by34 : byT Tryz.prog 34 = some 16 := by kernel_rfl
theorem zc34 : zcells Tryz.prog 34 = some (([.int .i64 0, .int .i64 0] : List PV)) := by kernel_rfl
theorem sz35 : szT Tryz.prog 35 = some 2 := by kernel_rfl
theorem by35 : byT Tryz.prog 35 = some 16 := by kernel_rfl
theorem zc35 : zcells Tryz.prog 35 = some (([.int .i64 0, .int .i64 0] : List PV)) := by kernel_rfl
theorem sz36 : szT Tryz.prog 36 = some 64 := by kernel_rfl
theorem by36 : byT Tryz.prog 36 = some 64 := by kernel_rfl
theorem zc36 : zcells Tryz.prog 36 = some ((List.replicate 64 (PV.int .u8 0) : List PV)) := by kernel_rfl
theorem sz37 : szT Tryz.prog 37 = some 135 := by kernel_rfl
theorem by37 : byT Tryz.prog 37 = some 184 := by kernel_rfl
theorem zc37 : zcells Tryz.prog 37 = some (([.int .i64 0, .int .i64 0, .int .i64 0, .int .i64 0, .bool false, .int .i64 0, .int .i64 0] : List PV) ++ (List.replicate 128 (PV.int .u8 0) : List PV)) := by kernel_rfl
theorem sz38 : szT Tryz.prog 38 = some 135 := by kernel_rfl
theorem by38 : byT Tryz.prog 38 = some 184 := by kernel_rfl
theorem zc38 : zcells Tryz.prog 38 = some (([.int .i64 0, .int .i64 0, .int .i64 0, .int .i64 0, .bool false, .int .i64 0, .int .i64 0] : List PV) ++ (List.replicate 128 (PV.int .u8 0) : List PV)) := by kernel_rfl
theorem sz39 : szT Tryz.prog 39 = some 2 := by kernel_rfl
theorem by39 : byT Tryz.prog 39 = some 2 := by kernel_rfl
theorem zc39 : zcells Tryz.prog 39 = some (([.bool false, .bool false] : List PV)) := by kernel_rfl
theorem sz40 : szT Tryz.prog 40 = some 2 := by kernel_rfl
theorem by40 : byT Tryz.prog 40 = some 16 := by kernel_rfl
theorem zc40 : zcells Tryz.prog 40 = some (([.int .i64 0, .int .i64 0] : List PV)) := by kernel_rfl
theorem sz41 : szT Tryz.prog 41 = some 2 := by kernel_rfl
theorem by41 : byT Tryz.prog 41 = some 16 := by kernel_rfl
theorem zc41 : zcells Tryz.prog 41 = some (([.int .i64 0, .int .i64 0] : List PV)) := by kernel_rfl
theorem sz42 : szT Tryz.prog 42 = some 4 := by kernel_rfl
theorem by42 : byT Tryz.prog 42 = some 32 := by kernel_rfl
theorem zc42 : zcells Tryz.prog 42 = some (([.int .i64 0, .int .i64 0, .int .i64 0, .int .i64 0] : List PV)) := by kernel_rfl
theorem sz43 : szT Tryz.prog 43 = some 8 := by kernel_rfl
theorem by43 : byT Tryz.prog 43 = some 64 := by kernel_rfl
theorem zc43 : zcells Tryz.prog 43 = some (([.int .i64 0, .int .i64 0, .int .i64 0, .int .i64 0, .int .i64 0, .int .i64 0, .int .i64 0, .int .i64 0] : List PV)) := by kernel_rfl
theorem sz44 : szT Tryz.prog 44 = some 2 := by kernel_rfl
theorem by44 : byT Tryz.prog 44 = some 16 := by kernel_rfl
theorem zc44 : zcells Tryz.prog 44 = some (([.int .i64 0, .int .i64 0] : List PV)) := by kernel_rfl
theorem sz45 : szT Tryz.prog 45 = some 4 := by kernel_rfl
theorem by45 : byT Tryz.prog 45 = some 32 := by kernel_rfl
theorem zc45 : zcells Tryz.prog 45 = some (([.int .i64 0, .int .i64 0, .int .i64 0, .int .i64 0] : List PV)) := by kernel_rfl
theorem sz46 : szT Tryz.prog 46 = some 6 := by kernel_rfl
theorem by46 : byT Tryz.prog 46 = some 6 := by kernel_rfl
theorem zc46 : zcells Tryz.prog 46 = some (([.bool false, .bool false, .bool false, .bool false, .bool false, .bool false] : List PV)) := by kernel_rfl
theorem sz47 : szT Tryz.prog 47 = some 64 := by kernel_rfl
theorem by47 : byT Tryz.prog 47 = some 512 := by kernel_rfl
theorem zc47 : zcells Tryz.prog 47 = some ((List.replicate 64 (PV.int .i64 0) : List PV)) := by kernel_rfl
theorem sz48 : szT Tryz.prog 48 = some 384 := by kernel_rfl
theorem by48 : byT Tryz.prog 48 = some 3072 := by kernel_rfl
theorem zc48 : zcells Tryz.prog 48 = some ((List.replicate 384 (PV.int .i64 0) : List PV)) := by kernel_rfl
theorem sz49 : szT Tryz.prog 49 = some 408 := by kernel_rfl
theorem by49 : byT Tryz.prog 49 = some 3200 := by kernel_rfl
theorem zc49 : zcells Tryz.prog 49 = some (([.int .i64 0, .bool false, .bool false, .bool false, .bool false] : List PV) ++ (List.replicate 13 (PV.int .i64 0) : List PV) ++ ([.bool false, .bool false, .bool false, .bool false, .bool false, .bool false] : List PV) ++ (List.replicate 384 (PV.int .i64 0) : List PV)) := by kernel_rfl
theorem sz50 : szT Tryz.prog 50 = some 408 := by kernel_rfl
theorem by50 : byT Tryz.prog 50 = some 3200 := by kernel_rfl
theorem zc50 : zcells Tryz.prog 50 = some (([.int .i64 0, .bool false, .bool false, .bool false, .bool false] : List PV) ++ (List.replicate 13 (PV.int .i64 0) : List PV) ++ ([.bool false, .bool false, .bool false, .bool false, .bool false, .bool false] : List PV) ++ (List.replicate 384 (PV.int .i64 0) : List PV)) := by kernel_rfl
theorem sz51 : szT Tryz.prog 51 = some 1 := by kernel_rfl
theorem by51 : byT Tryz.prog 51 = some 24 := by kernel_rfl
theorem zc51 : zcells Tryz.prog 51 = some (([.slice [] 0 true] : List PV)) := by kernel_rfl
theorem sz52 : szT Tryz.prog 52 = some 5 := by kernel_rfl
theorem by52 : byT Tryz.prog 52 = some 88 := by kernel_rfl
theorem zc52 : zcells Tryz.prog 52 = some (([.int .i64 0, .int .i64 0, .slice [] 0 true, .slice [] 0 true, .slice [] 0 true] : List PV)) := by kernel_rfl
theorem sz53 : szT Tryz.prog 53 = some 5 := by kernel_rfl
theorem by53 : byT Tryz.prog 53 = some 88 := by kernel_rfl
theorem zc53 : zcells Tryz.prog 53 = some (([.int .i64 0, .int .i64 0, .slice [] 0 true, .slice [] 0 true, .slice [] 0 true] : List PV)) := by kernel_rfl
theorem sz54 : szT Tryz.prog 54 = some 15 := by kernel_rfl
theorem by54 : byT Tryz.prog 54 = some 264 := by kernel_rfl
theorem zc54 : zcells Tryz.prog 54 = some (([.int .i64 0, .int .i64 0, .slice [] 0 true, .slice [] 0 true, .slice [] 0 true, .int .i64 0, .int .i64 0, .slice [] 0 true, .slice [] 0 true, .slice [] 0 true, .int .i64 0, .int .i64 0, .slice [] 0 true, .slice [] 0 true, .slice [] 0 true] : List PV)) := by kernel_rfl
theorem sz55 : szT Tryz.prog 55 = some 15 := by kernel_rfl
theorem by55 : byT Tryz.prog 55 = some 264 := by kernel_rfl
theorem zc55 : zcells Tryz.prog 55 = some (([.int .i64 0, .int .i64 0, .slice [] 0 true, .slice [] 0 true, .slice [] 0 true, .int .i64 0, .int .i64 0, .slice [] 0 true, .slice [] 0 true, .slice [] 0 true, .int .i64 0, .int .i64 0, .slice [] 0 true, .slice [] 0 true, .slice [] 0 true] : List PV)) := by kernel_rfl
theorem sz56 : szT Tryz.prog 56 = some 566 := by kernel_rfl
theorem by56 : byT Tryz.prog 56 = some 3704 := by kernel_rfl
theorem zc56 : zcells Tryz.prog 56 = some (([.int .i64 0, .int .i64 0, .bool false, .bool false, .int .i64 0, .int .i64 0, .int .i64 0, .int .i64 0, .bool false, .int .i64 0, .int .i64 0] : List PV) ++ (List.replicate 128 (PV.int .u8 0) : List PV) ++ ([.bool false, .int .i64 0, .int .i64 0, .bool false, .bool false, .bool false, .bool false] : List PV) ++ (List.replicate 13 (PV.int .i64 0) : List PV) ++ ([.bool false, .bool false, .bool false, .bool false, .bool false, .bool false] : List PV) ++ (List.replicate 386 (PV.int .i64 0) : List PV) ++ ([.slice [] 0 true, .slice [] 0 true, .slice [] 0 true, .int .i64 0, .int .i64 0, .slice [] 0 true, .slice [] 0 true, .slice [] 0 true, .int .i64 0, .int .i64 0, .slice [] 0 true, .slice [] 0 true, .slice [] 0 true, .int .i64 0, .int .i64 0] : List PV)) := by kernel_rfl
theorem sz57 : szT Tryz.prog 57 = some 566 := by kernel_rfl
theorem by57 : byT Tryz.prog 57 = some 3704 := by kernel_rfl
theorem zc57 : zcells Tryz.prog 57 = some (([.int .i64 0, .int .i64 0, .bool false, .bool false, .int .i64 0, .int .i64 0, .int .i64 0, .int .i64 0, .bool false, .int .i64 0, .int .i64 0] : List PV) ++ (List.replicate 128 (PV.int .u8 0) : List PV) ++ ([.bool false, .int .i64 0, .int .i64 0, .bool false, .bool false, .bool false, .bool false] : List PV) ++ (List.replicate 13 (PV.int .i64 0) : List PV) ++ ([.bool false, .bool false, .bool false, .bool false, .bool false, .bool false] : List PV) ++ (List.replicate 386 (PV.int .i64 0) : List PV) ++ ([.slice [] 0 true, .slice [] 0 true, .slice [] 0 true, .int .i64 0, .int .i64 0, .slice [] 0 true, .slice [] 0 true, .slice [] 0 true, .int .i64 0, .int .i64 0, .slice [] 0 true, .slice [] 0 true, .slice [] 0 true, .int .i64 0, .int .i64 0] : List PV)) := by kernel_rfl
theorem sz58 : szT Tryz.prog 58 = some 1 := by kernel_rfl
theorem by58 : byT Tryz.prog 58 = some 8 := by kernel_rfl
theorem sz59 : szT Tryz.prog 59 = some 1 := by kernel_rfl
theorem by59 : byT Tryz.prog 59 = some 8 := by kernel_rfl
theorem zc59 : zcells Tryz.prog 59 = some (([.int .i64 0] : List PV)) := by kernel_rfl
theorem sz60 : szT Tryz.prog 60 = some 1 := by kernel_rfl
theorem by60 : byT Tryz.prog 60 = some 0 := by kernel_rfl
theorem sz61 : szT Tryz.prog 61 = some 1 := by kernel_rfl
theorem by61 : byT Tryz.prog 61 = some 8 := by kernel_rfl
theorem sz62 : szT Tryz.prog 62 = some 1 := by kernel_rfl
theorem by62 : byT Tryz.prog 62 = some 8 := by kernel_rfl
theorem sz63 : szT Tryz.prog 63 = some 1 := by kernel_rfl
theorem by63 : byT Tryz.prog 63 = some 8 := by kernel_rfl
theorem sz64 : szT Tryz.prog 64 = some 1 := by kernel_rfl
theorem by64 : byT Tryz.prog 64 = some 8 := by kernel_rfl
theorem sz65 : szT Tryz.prog 65 = some 1 := by kernel_rfl
theorem by65 : byT Tryz.prog 65 = some 8 := by kernel_rfl
theorem sz66 : szT Tryz.prog 66 = some 1 := by kernel_rfl
theorem by66 : byT Tryz.prog 66 = some 8 := by kernel_rfl
theorem sz67 : szT Tryz.prog 67 = some 1 := by kernel_rfl
theorem by67 : byT Tryz.prog 67 = some 8 := by kernel_rfl
theorem sz68 : szT Tryz.prog 68 = some 1 := by kernel_rfl
theorem by68 : byT Tryz.prog 68 = some 8 := by kernel_rfl
theorem sz69 : szT Tryz.prog 69 = some 6 := by kernel_rfl
theorem by69 : byT Tryz.prog 69 = some 32 := by kernel_rfl
theorem zc69 : zcells Tryz.prog 69 = some (([.int .i64 0, .int .i64 0, .int .i64 0, .bool false, .bool false, .bool false] : List PV)) := by kernel_rfl
theorem sz70 : szT Tryz.prog 70 = some 6 := by kernel_rfl
theorem by70 : byT Tryz.prog 70 = some 32 := by kernel_rfl
theorem zc70 : zcells Tryz.prog 70 = some (([.int .i64 0, .int .i64 0, .int .i64 0, .bool false, .bool false, .bool false] : List PV)) := by kernel_rfl
theorem sz71 : szT Tryz.prog 71 = some 1 := by kernel_rfl
theorem by71 : byT Tryz.prog 71 = some 8 := by kernel_rfl
theorem sz72 : szT Tryz.prog 72 = some 1 := by kernel_rfl
theorem by72 : byT Tryz.prog 72 = some 24 := by kernel_rfl
theorem zc72 : zcells Tryz.prog 72 = some (([.slice [] 0 true] : List PV)) := by kernel_rfl
theorem sz73 : szT Tryz.prog 73 = some 1 := by kernel_rfl
theorem by73 : byT Tryz.prog 73 = some 24 := by kernel_rfl
theorem zc73 : zcells Tryz.prog 73 = some (([.slice [] 0 true] : List PV)) := by kernel_rfl
theorem sz74 : szT Tryz.prog 74 = some 8 := by kernel_rfl
theorem by74 : byT Tryz.prog 74 = some 80 := by kernel_rfl
theorem zc74 : zcells Tryz.prog 74 = some (([.int .i64 0, .int .i64 0, .int .i64 0, .bool false, .bool false, .bool false, .slice [] 0 true, .slice [] 0 true] : List PV)) := by kernel_rfl
theorem sz75 : szT Tryz.prog 75 = some 8 := by kernel_rfl
theorem by75 : byT Tryz.prog 75 = some 80 := by kernel_rfl
theorem zc75 : zcells Tryz.prog 75 = some (([.int .i64 0, .int .i64 0, .int .i64 0, .bool false, .bool false, .bool false, .slice [] 0 true, .slice [] 0 true] : List PV)) := by kernel_rfl
theorem sz76 : szT Tryz.prog 76 = some 1 := by kernel_rfl
theorem by76 : byT Tryz.prog 76 = some 8 := by kernel_rfl
theorem sz77 : szT Tryz.prog 77 = some 1 := by kernel_rfl
theorem by77 : byT Tryz.prog 77 = some 8 := by kernel_rfl
theorem sz78 : szT Tryz.prog 78 = some 1 := by kernel_rfl
theorem by78 : byT Tryz.prog 78 = some 24 := by kernel_rfl
theorem zc78 : zcells Tryz.prog 78 = some (([.slice [] 0 true] : List PV)) := by kernel_rfl
theorem sz79 : szT Tryz.prog 79 = some 1 := by kernel_rfl
theorem by79 : byT Tryz.prog 79 = some 0 := by kernel_rfl
theorem sz80 : szT Tryz.prog 80 = some 1 := by kernel_rfl
theorem by80 : byT Tryz.prog 80 = some 8 := by kernel_rfl
theorem sz81 : szT Tryz.prog 81 = some 1 := by kernel_rfl
theorem by81 : byT Tryz.prog 81 = some 8 := by kernel_rfl
theorem sz82 : szT Tryz.prog 82 = some 1 := by kernel_rfl
theorem by82 : byT Tryz.prog 82 = some 8 := by kernel_rfl
theorem sz83 : szT Tryz.prog 83 = some 1 := by kernel_rfl
theorem by83 : byT Tryz.prog 83 = some 8 := by kernel_rfl
theorem sz84 : szT Tryz.prog 84 = some 3 := by kernel_rfl
theorem by84 : byT Tryz.prog 84 = some 16 := by kernel_rfl
theorem zc84 : zcells Tryz.prog 84 = some (([.bool false, .bool false, .int .i64 0] : List PV)) := by kernel_rfl
theorem sz85 : szT Tryz.prog 85 = some 3 := by kernel_rfl
theorem by85 : byT Tryz.prog 85 = some 16 := by kernel_rfl
theorem zc85 : zcells Tryz.prog 85 = some (([.bool false, .bool false, .int .i64 0] : List PV)) := by kernel_rfl
theorem sz86 : szT Tryz.prog 86 = some 148 := by kernel_rfl
theorem by86 : byT Tryz.prog 86 = some 296 := by kernel_rfl
theorem zc86 : zcells Tryz.prog 86 = some (([.int .i64 0, .int .i64 0, .int .i64 0, .int .i64 0, .int .i64 0, .bool false, .int .i64 0, .int .i64 0] : List PV) ++ (List.replicate 128 (PV.int .u8 0) : List PV) ++ ([.bool false, .bool false, .int .i64 0, .int .i64 0, .int .i64 0, .int .i64 0, .bool false, .bool false, .bool false, .slice [] 0 true, .slice [] 0 true, .int .i64 0] : List PV)) := by kernel_rfl
theorem sz87 : szT Tryz.prog 87 = some 148 := by kernel_rfl
theorem by87 : byT Tryz.prog 87 = some 296 := by kernel_rfl
theorem zc87 : zcells Tryz.prog 87 = some (([.int .i64 0, .int .i64 0, .int .i64 0, .int .i64 0, .int .i64 0, .bool false, .int .i64 0, .int .i64 0] : List PV) ++ (List.replicate 128 (PV.int .u8 0) : List PV) ++ ([.bool false, .bool false, .int .i64 0, .int .i64 0, .int .i64 0, .int .i64 0, .bool false, .bool false, .bool false, .slice [] 0 true, .slice [] 0 true, .int .i64 0] : List PV)) := by kernel_rfl
theorem sz88 : szT Tryz.prog 88 = some 2 := by kernel_rfl
theorem by88 : byT Tryz.prog 88 = some 32 := by kernel_rfl
theorem zc88 : zcells Tryz.prog 88 = some (([.int .i64 0, .slice [] 0 true] : List PV)) := by kernel_rfl
theorem sz89 : szT Tryz.prog 89 = some 2 := by kernel_rfl
theorem by89 : byT Tryz.prog 89 = some 32 := by kernel_rfl
theorem zc89 : zcells Tryz.prog 89 = some (([.int .i64 0, .slice [] 0 true] : List PV)) := by kernel_rfl
theorem sz90 : szT Tryz.prog 90 = some 1 := by kernel_rfl
theorem by90 : byT Tryz.prog 90 = some 24 := by kernel_rfl
theorem zc90 : zcells Tryz.prog 90 = some (([.slice [] 0 true] : List PV)) := by kernel_rfl
theorem sz91 : szT Tryz.prog 91 = some 1 := by kernel_rfl
theorem by91 : byT Tryz.prog 91 = some 8 := by kernel_rfl
theorem sz92 : szT Tryz.prog 92 = some 147 := by kernel_rfl
theorem by92 : byT Tryz.prog 92 = some 264 := by kernel_rfl
theorem zc92 : zcells Tryz.prog 92 = some (([.int .i64 0, .int .i64 0, .int .i64 0, .int .i64 0, .int .i64 0, .int .i64 0, .int .i64 0, .int .i64 0, .int .i64 0, .int .i64 0, .bool false, .int .i64 0, .int .i64 0] : List PV) ++ (List.replicate 128 (PV.int .u8 0) : List PV) ++ ([.int .i64 0, .int .i64 0, .int .i64 0, .bool false, .bool false, .bool false] : List PV)) := by kernel_rfl
theorem sz93 : szT Tryz.prog 93 = some 147 := by kernel_rfl
theorem by93 : byT Tryz.prog 93 = some 264 := by kernel_rfl
theorem zc93 : zcells Tryz.prog 93 = some (([.int .i64 0, .int .i64 0, .int .i64 0, .int .i64 0, .int .i64 0, .int .i64 0, .int .i64 0, .int .i64 0, .int .i64 0, .int .i64 0, .bool false, .int .i64 0, .int .i64 0] : List PV) ++ (List.replicate 128 (PV.int .u8 0) : List PV) ++ ([.int .i64 0, .int .i64 0, .int .i64 0, .bool false, .bool false, .bool false] : List PV)) := by kernel_rfl
theorem sz94 : szT Tryz.prog 94 = some 145 := by kernel_rfl
theorem by94 : byT Tryz.prog 94 = some 296 := by kernel_rfl
theorem zc94 : zcells Tryz.prog 94 = some (([.slice [] 0 true, .bool false, .int .i64 0, .int .i64 0, .int .i64 0, .int .i64 0, .bool false, .int .i64 0, .int .i64 0] : List PV) ++ (List.replicate 128 (PV.int .u8 0) : List PV) ++ ([.int .i64 0, .int .i64 0, .bool false, .int .i64 0, .int .i64 0, .int .i64 0, .slice [] 0 true, .bool false] : List PV)) := by kernel_rfl
theorem sz95 : szT Tryz.prog 95 = some 145 := by kernel_rfl
theorem by95 : byT Tryz.prog 95 = some 296 := by kernel_rfl
theorem zc95 : zcells Tryz.prog 95 = some (([.slice [] 0 true, .bool false, .int .i64 0, .int .i64 0, .int .i64 0, .int .i64 0, .bool false, .int .i64 0, .int .i64 0] : List PV) ++ (List.replicate 128 (PV.int .u8 0) : List PV) ++ ([.int .i64 0, .int .i64 0, .bool false, .int .i64 0, .int .i64 0, .int .i64 0, .slice [] 0 true, .bool false] : List PV)) := by kernel_rfl
theorem sz96 : szT Tryz.prog 96 = some 1 := by kernel_rfl
theorem by96 : byT Tryz.prog 96 = some 8 := by kernel_rfl
theorem sz97 : szT Tryz.prog 97 = some 1 := by kernel_rfl
theorem by97 : byT Tryz.prog 97 = some 0 := by kernel_rfl
theorem sz98 : szT Tryz.prog 98 = some 1 := by kernel_rfl
theorem by98 : byT Tryz.prog 98 = some 8 := by kernel_rfl
theorem sz99 : szT Tryz.prog 99 = some 1 := by kernel_rfl
theorem by99 : byT Tryz.prog 99 = some 24 := by kernel_rfl
theorem zc99 : zcells Tryz.prog 99 = some (([.slice [] 0 true] : List PV)) := by kernel_rfl
theorem sz100 : szT Tryz.prog 100 = some 1 := by kernel_rfl
theorem by100 : byT Tryz.prog 100 = some 0 := by kernel_rfl
theorem sz101 : szT Tryz.prog 101 = some 1 := by kernel_rfl
theorem by101 : byT Tryz.prog 101 = some 8 := by kernel_rfl
theorem sz102 : szT Tryz.prog 102 = some 1 := by kernel_rfl
theorem by102 : byT Tryz.prog 102 = some 8 := by kernel_rfl
theorem sz103 : szT Tryz.prog 103 = some 1 := by kernel_rfl
theorem by103 : byT Tryz.prog 103 = some 8 := by kernel_rfl
theorem sz104 : szT Tryz.prog 104 = some 4 := by kernel_rfl
theorem by104 : byT Tryz.prog 104 = some 24 := by kernel_rfl
theorem zc104 : zcells Tryz.prog 104 = some (([.int .i64 0, .int .i64 0, .bool false, .bool false] : List PV)) := by kernel_rfl
theorem sz105 : szT Tryz.prog 105 = some 1 := by kernel_rfl
theorem by105 : byT Tryz.prog 105 = some 8 := by kernel_rfl
theorem sz106 : szT Tryz.prog 106 = some 1 := by kernel_rfl
theorem by106 : byT Tryz.prog 106 = some 8 := by kernel_rfl
theorem sz107 : szT Tryz.prog 107 = some 1 := by kernel_rfl
theorem by107 : byT Tryz.prog 107 = some 8 := by kernel_rfl
theorem sz108 : szT Tryz.prog 108 = some 1 := by kernel_rfl
theorem by108 : byT Tryz.prog 108 = some 8 := by kernel_rfl
theorem sz109 : szT Tryz.prog 109 = some 1 := by kernel_rfl
theorem by109 : byT Tryz.prog 109 = some 8 := by kernel_rfl
theorem sz110 : szT Tryz.prog 110 = some 1 := by kernel_rfl
theorem by110 : byT Tryz.prog 110 = some 0 := by kernel_rfl
theorem sz111 : szT Tryz.prog 111 = some 1 := by kernel_rfl
theorem by111 : byT Tryz.prog 111 = some 8 := by kernel_rfl
theorem sz112 : szT Tryz.prog 112 = some 1 := by kernel_rfl
theorem by112 : byT Tryz.prog 112 = some 8 := by kernel_rfl
theorem sz113 : szT Tryz.prog 113 = some 1 := by kernel_rfl
theorem by113 : byT Tryz.prog 113 = some 8 := by kernel_rfl
theorem sz114 : szT Tryz.prog 114 = some 1 := by kernel_rfl
theorem by114 : byT Tryz.prog 114 = some 8 := by kernel_rfl
theorem sz115 : szT Tryz.prog 115 = some 1 := by kernel_rfl
theorem by115 : byT Tryz.prog 115 = some 8 := by kernel_rfl
theorem sz116 : szT Tryz.prog 116 = some 1 := by kernel_rfl
theorem by116 : byT Tryz.prog 116 = some 8 := by kernel_rfl
theorem zc116 : zcells Tryz.prog 116 = some (([.nilp] : List PV)) := by kernel_rfl
theorem sz117 : szT Tryz.prog 117 = some 1 := by kernel_rfl
theorem by117 : byT Tryz.prog 117 = some 8 := by kernel_rfl
theorem sz118 : szT Tryz.prog 118 = some 3 := by kernel_rfl
theorem by118 : byT Tryz.prog 118 = some 24 := by kernel_rfl
theorem zc118 : zcells Tryz.prog 118 = some (([.int .i64 0, .int .i64 0, .int .i64 0] : List PV)) := by kernel_rfl
theorem sz119 : szT Tryz.prog 119 = some 8 := by kernel_rfl
theorem by119 : byT Tryz.prog 119 = some 64 := by kernel_rfl
theorem zc119 : zcells Tryz.prog 119 = some (([.int .i64 0, .int .i64 0, .int .i64 0, .int .i64 0, .int .i64 0, .int .i64 0, .int .i64 0, .int .i64 0] : List PV)) := by kernel_rfl
theorem sz120 : szT Tryz.prog 120 = some 8 := by kernel_rfl
theorem by120 : byT Tryz.prog 120 = some 64 := by kernel_rfl
theorem zc120 : zcells Tryz.prog 120 = some (([.int .i64 0, .int .i64 0, .int .i64 0, .int .i64 0, .int .i64 0, .int .i64 0, .int .i64 0, .int .i64 0] : List PV)) := by kernel_rfl
theorem sz121 : szT Tryz.prog 121 = some 1 := by kernel_rfl
theorem by121 : byT Tryz.prog 121 = some 0 := by kernel_rfl
theorem sz122 : szT Tryz.prog 122 = some 1 := by kernel_rfl
theorem by122 : byT Tryz.prog 122 = some 8 := by kernel_rfl
theorem sz123 : szT Tryz.prog 123 = some 1 := by kernel_rfl
theorem by123 : byT Tryz.prog 123 = some 8 := by kernel_rfl
theorem sz124 : szT Tryz.prog 124 = some 1 := by kernel_rfl
theorem by124 : byT Tryz.prog 124 = some 8 := by kernel_rfl
theorem sz125 : szT Tryz.prog 125 = some 1 := by kernel_rfl
theorem by125 : byT Tryz.prog 125 = some 8 := by kernel_rfl
theorem sz126 : szT Tryz.prog 126 = some 1 := by kernel_rfl
theorem by126 : byT Tryz.prog 126 = some 8 := by kernel_rfl
theorem sz127 : szT Tryz.prog 127 = some 1 := by kernel_rfl
theorem by127 : byT Tryz.prog 127 = some 8 := by kernel_rfl
theorem sz128 : szT Tryz.prog 128 = some 1 := by kernel_rfl
theorem by128 : byT Tryz.prog 128 = some 8 := by kernel_rfl
theorem sz129 : szT Tryz.prog 129 = some 1 := by kernel_rfl
theorem by129 : byT Tryz.prog 129 = some 8 := by kernel_rfl
theorem sz130 : szT Tryz.prog 130 = some 1 := by kernel_rfl
theorem by130 : byT Tryz.prog 130 = some 8 := by kernel_rfl
theorem sz131 : szT Tryz.prog 131 = some 1 := by kernel_rfl
theorem by131 : byT Tryz.prog 131 = some 0 := by kernel_rfl
theorem sz132 : szT Tryz.prog 132 = some 1 := by kernel_rfl
theorem by132 : byT Tryz.prog 132 = some 8 := by kernel_rfl
theorem sz133 : szT Tryz.prog 133 = some 1 := by kernel_rfl
theorem by133 : byT Tryz.prog 133 = some 8 := by kernel_rfl
theorem sz134 : szT Tryz.prog 134 = some 1 := by kernel_rfl
theorem by134 : byT Tryz.prog 134 = some 8 := by kernel_rfl
theorem sz135 : szT Tryz.prog 135 = some 1 := by kernel_rfl
theorem by135 : byT Tryz.prog 135 = some 8 := by kernel_rfl
theorem sz136 : szT Tryz.prog 136 = some 1 := by kernel_rfl
theorem by136 : byT Tryz.prog 136 = some 8 := by kernel_rfl
theorem sz137 : szT Tryz.prog 137 = some 1 := by kernel_rfl
theorem by137 : byT Tryz.prog 137 = some 8 := by kernel_rfl
theorem sz138 : szT Tryz.prog 138 = some 1 := by kernel_rfl
theorem by138 : byT Tryz.prog 138 = some 0 := by kernel_rfl
theorem sz139 : szT Tryz.prog 139 = some 1 := by kernel_rfl
theorem by139 : byT Tryz.prog 139 = some 8 := by kernel_rfl
theorem sz140 : szT Tryz.prog 140 = some 1 := by kernel_rfl
theorem by140 : byT Tryz.prog 140 = some 24 := by kernel_rfl
theorem zc140 : zcells Tryz.prog 140 = some (([.slice [] 0 true] : List PV)) := by kernel_rfl
theorem sz141 : szT Tryz.prog 141 = some 1 := by kernel_rfl
theorem by141 : byT Tryz.prog 141 = some 0 := by kernel_rfl
theorem sz142 : szT Tryz.prog 142 = some 1 := by kernel_rfl
theorem by142 : byT Tryz.prog 142 = some 8 := by kernel_rfl
theorem sz143 : szT Tryz.prog 143 = some 1 := by kernel_rfl
theorem by143 : byT Tryz.prog 143 = some 8 := by kernel_rfl
theorem sz144 : szT Tryz.prog 144 = some 1 := by kernel_rfl
theorem by144 : byT Tryz.prog 144 = some 8 := by kernel_rfl
theorem sz145 : szT Tryz.prog 145 = some 1 := by kernel_rfl
theorem by145 : byT Tryz.prog 145 = some 8 := by kernel_rfl
theorem sz146 : szT Tryz.prog 146 = some 6 := by kernel_rfl
theorem by146 : byT Tryz.prog 146 = some 64 := by kernel_rfl
theorem zc146 : zcells Tryz.prog 146 = some (([.slice [] 0 true, .int .i64 0, .int .i64 0, .bool false, .int .i64 0, .int .i64 0] : List PV)) := by kernel_rfl
theorem sz147 : szT Tryz.prog 147 = some 6 := by kernel_rfl
theorem by147 : byT Tryz.prog 147 = some 64 := by kernel_rfl
theorem zc147 : zcells Tryz.prog 147 = some (([.slice [] 0 true, .int .i64 0, .int .i64 0, .bool false, .int .i64 0, .int .i64 0] : List PV)) := by kernel_rfl
theorem sz148 : szT Tryz.prog 148 = some 1 := by kernel_rfl
theorem by148 : byT Tryz.prog 148 = some 8 := by kernel_rfl
theorem sz149 : szT Tryz.prog 149 = some 1 := by kernel_rfl
theorem by149 : byT Tryz.prog 149 = some 8 := by kernel_rfl
theorem sz150 : szT Tryz.prog 150 = some 1 := by kernel_rfl
theorem by150 : byT Tryz.prog 150 = some 8 := by kernel_rfl
theorem sz151 : szT Tryz.prog 151 = some 145 := by kernel_rfl
theorem by151 : byT Tryz.prog 151 = some 248 := by kernel_rfl
theorem zc151 : zcells Tryz.prog 151 = some (([.int .i64 0, .int .i64 0, .int .i64 0, .int .i64 0, .int .i64 0, .int .i64 0, .bool false, .int .i64 0, .int .i64 0] : List PV) ++ (List.replicate 128 (PV.int .u8 0) : List PV) ++ ([.int .i64 0, .int .i64 0, .int .i64 0, .bool false, .bool false, .bool false, .bool false, .int .i64 0] : List PV)) := by kernel_rfl
theorem sz152 : szT Tryz.prog 152 = some 145 := by kernel_rfl
theorem by152 : byT Tryz.prog 152 = some 248 := by kernel_rfl
theorem zc152 : zcells Tryz.prog 152 = some (([.int .i64 0, .int .i64 0, .int .i64 0, .int .i64 0, .int .i64 0, .int .i64 0, .bool false, .int .i64 0, .int .i64 0] : List PV) ++ (List.replicate 128 (PV.int .u8 0) : List PV) ++ ([.int .i64 0, .int .i64 0, .int .i64 0, .bool false, .bool false, .bool false, .bool false, .int .i64 0] : List PV)) := by kernel_rfl
theorem sz153 : szT Tryz.prog 153 = some 1 := by kernel_rfl
theorem by153 : byT Tryz.prog 153 = some 8 := by kernel_rfl
theorem sz154 : szT Tryz.prog 154 = some 1 := by kernel_rfl
theorem by154 : byT Tryz.prog 154 = some 8 := by kernel_rfl
theorem sz155 : szT Tryz.prog 155 = some 1 := by kernel_rfl
theorem by155 : byT Tryz.prog 155 = some 8 := by kernel_rfl
theorem sz156 : szT Tryz.prog 156 = some 1 := by kernel_rfl
theorem by156 : byT Tryz.prog 156 = some 24 := by kernel_rfl
theorem zc156 : zcells Tryz.prog 156 = some (([.slice [] 0 true] : List PV)) := by kernel_rfl
theorem sz157 : szT Tryz.prog 157 = some 1 := by kernel_rfl
theorem by157 : byT Tryz.prog 157 = some 0 := by kernel_rfl
theorem sz158 : szT Tryz.prog 158 = some 1 := by kernel_rfl
theorem by158 : byT Tryz.prog 158 = some 8 := by kernel_rfl
theorem sz159 : szT Tryz.prog 159 = some 3 := by kernel_rfl
theorem by159 : byT Tryz.prog 159 = some 40 := by kernel_rfl
theorem zc159 : zcells Tryz.prog 159 = some (([.slice [] 0 true, .int .i64 0, .bool false] : List PV)) := by kernel_rfl
theorem sz160 : szT Tryz.prog 160 = some 3 := by kernel_rfl
theorem by160 : byT Tryz.prog 160 = some 40 := by kernel_rfl
theorem zc160 : zcells Tryz.prog 160 = some (([.slice [] 0 true, .int .i64 0, .bool false] : List PV)) := by kernel_rfl
theorem sz161 : szT Tryz.prog 161 = some 5 := by kernel_rfl
theorem by161 : byT Tryz.prog 161 = some 56 := by kernel_rfl
theorem zc161 : zcells Tryz.prog 161 = some (([.int .i64 0, .slice [] 0 true, .int .i64 0, .int .i64 0, .int .i64 0] : List PV)) := by kernel_rfl
theorem sz162 : szT Tryz.prog 162 = some 5 := by kernel_rfl
theorem by162 : byT Tryz.prog 162 = some 56 := by kernel_rfl
theorem zc162 : zcells Tryz.prog 162 = some (([.int .i64 0, .slice [] 0 true, .int .i64 0, .int .i64 0, .int .i64 0] : List PV)) := by kernel_rfl
theorem sz163 : szT Tryz.prog 163 = some 1 := by kernel_rfl
theorem by163 : byT Tryz.prog 163 = some 8 := by kernel_rfl
theorem sz164 : szT Tryz.prog 164 = some 2 := by kernel_rfl
theorem by164 : byT Tryz.prog 164 = some 16 := by kernel_rfl
theorem zc164 : zcells Tryz.prog 164 = some (([.int .i64 0, .int .i64 0] : List PV)) := by kernel_rfl
theorem sz165 : szT Tryz.prog 165 = some 2 := by kernel_rfl
theorem by165 : byT Tryz.prog 165 = some 16 := by kernel_rfl
theorem zc165 : zcells Tryz.prog 165 = some (([.int .i64 0, .int .i64 0] : List PV)) := by kernel_rfl
theorem sz166 : szT Tryz.prog 166 = some 1 := by kernel_rfl
theorem by166 : byT Tryz.prog 166 = some 8 := by kernel_rfl
theorem sz167 : szT Tryz.prog 167 = some 1 := by kernel_rfl
theorem by167 : byT Tryz.prog 167 = some 8 := by kernel_rfl
theorem sz168 : szT Tryz.prog 168 = some 1 := by kernel_rfl
theorem by168 : byT Tryz.prog 168 = some 8 := by kernel_rfl
theorem sz169 : szT Tryz.prog 169 = some 1 := by kernel_rfl
theorem by169 : byT Tryz.prog 169 = some 8 := by kernel_rfl
theorem sz170 : szT Tryz.prog 170 = some 1 := by kernel_rfl
theorem by170 : byT Tryz.prog 170 = some 8 := by kernel_rfl
theorem sz171 : szT Tryz.prog 171 = some 1 := by kernel_rfl
theorem by171 : byT Tryz.prog 171 = some 8 := by kernel_rfl
theorem sz172 : szT Tryz.prog 172 = some 1 := by kernel_rfl
theorem by172 : byT Tryz.prog 172 = some 8 := by kernel_rfl
theorem sz173 : szT Tryz.prog 173 = some 1 := by kernel_rfl
theorem by173 : byT Tryz.prog 173 = some 8 := by kernel_rfl
theorem zc173 : zcells Tryz.prog 173 = some (([.nilp] : List PV)) := by kernel_rfl
theorem sz174 : szT Tryz.prog 174 = some 1 := by kernel_rfl
theorem by174 : byT Tryz.prog 174 = some 8 := by kernel_rfl
theorem sz175 : szT Tryz.prog 175 = some 1 := by kernel_rfl
theorem by175 : byT Tryz.prog 175 = some 8 := by kernel_rfl
theorem sz176 : szT Tryz.prog 176 = some 1 := by kernel_rfl
theorem by176 : byT Tryz.prog 176 = some 8 := by kernel_rfl
theorem sz177 : szT Tryz.prog 177 = some 1 := by kernel_rfl
theorem by177 : byT Tryz.prog 177 = some 8 := by kernel_rfl
theorem sz178 : szT Tryz.prog 178 = some 1 := by kernel_rfl
theorem by178 : byT Tryz.prog 178 = some 8 := by kernel_rfl
theorem sz179 : szT Tryz.prog 179 = some 1 := by kernel_rfl
theorem by179 : byT Tryz.prog 179 = some 8 := by kernel_rfl
theorem sz180 : szT Tryz.prog 180 = some 1 := by kernel_rfl
theorem by180 : byT Tryz.prog 180 = some 8 := by kernel_rfl
theorem sz181 : szT Tryz.prog 181 = some 1 := by kernel_rfl
theorem by181 : byT Tryz.prog 181 = some 8 := by kernel_rfl
theorem sz182 : szT Tryz.prog 182 = some 1 := by kernel_rfl
theorem by182 : byT Tryz.prog 182 = some 8 := by kernel_rfl
theorem sz183 : szT Tryz.prog 183 = some 1 := by kernel_rfl
theorem by183 : byT Tryz.prog 183 = some 8 := by kernel_rfl
theorem sz184 : szT Tryz.prog 184 = some 1 := by kernel_rfl
theorem by184 : byT Tryz.prog 184 = some 8 := by kernel_rfl
theorem sz185 : szT Tryz.prog 185 = some 1 := by kernel_rfl
theorem by185 : byT Tryz.prog 185 = some 8 := by kernel_rfl
theorem sz186 : szT Tryz.prog 186 = some 1 := by kernel_rfl
theorem by186 : byT Tryz.prog 186 = some 8 := by kernel_rfl
theorem sz187 : szT Tryz.prog 187 = some 1 := by kernel_rfl
theorem by187 : byT Tryz.prog 187 = some 8 := by kernel_rfl
theorem sz188 : szT Tryz.prog 188 = some 1 := by kernel_rfl
theorem by188 : byT Tryz.prog 188 = some 8 := by kernel_rfl
theorem sz189 : szT Tryz.prog 189 = some 1 := by kernel_rfl
theorem by189 : byT Tryz.prog 189 = some 8 := by kernel_rfl
theorem sz190 : szT Tryz.prog 190 = some 1 := by kernel_rfl
theorem by190 : byT Tryz.prog 190 = some 8 := by kernel_rfl
theorem sz191 : szT Tryz.prog 191 = some 2 := by kernel_rfl
theorem by191 : byT Tryz.prog 191 = some 32 := by kernel_rfl
theorem zc191 : zcells Tryz.prog 191 = some (([.slice [] 0 true, .int .i64 0] : List PV)) := by kernel_rfl
theorem sz192 : szT Tryz.prog 192 = some 2 := by kernel_rfl
theorem by192 : byT Tryz.prog 192 = some 32 := by kernel_rfl
theorem zc192 : zcells Tryz.prog 192 = some (([.slice [] 0 true, .int .i64 0] : List PV)) := by kernel_rfl
theorem sz193 : szT Tryz.prog 193 = some 14 := by kernel_rfl
theorem by193 : byT Tryz.prog 193 = some 104 := by kernel_rfl
theorem zc193 : zcells Tryz.prog 193 = some (([.int .i64 0, .int .i64 0, .int .i64 0, .int .i64 0, .int .i64 0, .int .i64 0, .int .i64 0, .int .i64 0, .nilp, .int .i64 0, .int .i64 0, .bool false, .bool false, .nilp] : List PV)) := by kernel_rfl
theorem sz194 : szT Tryz.prog 194 = some 14 := by kernel_rfl
theorem by194 : byT Tryz.prog 194 = some 104 := by kernel_rfl
theorem zc194 : zcells Tryz.prog 194 = some (([.int .i64 0, .int .i64 0, .int .i64 0, .int .i64 0, .int .i64 0, .int .i64 0, .int .i64 0, .int .i64 0, .nilp, .int .i64 0, .int .i64 0, .bool false, .bool false, .nilp] : List PV)) := by kernel_rfl
theorem sz195 : szT Tryz.prog 195 = some 1 := by kernel_rfl
theorem by195 : byT Tryz.prog 195 = some 8 := by kernel_rfl
theorem sz196 : szT Tryz.prog 196 = some 1 := by kernel_rfl
theorem by196 : byT Tryz.prog 196 = some 8 := by kernel_rfl
theorem zc196 : zcells Tryz.prog 196 = some (([.nilp] : List PV)) := by kernel_rfl
theorem sz197 : szT Tryz.prog 197 = some 1 := by kernel_rfl
theorem by197 : byT Tryz.prog 197 = some 24 := by kernel_rfl
theorem zc197 : zcells Tryz.prog 197 = some (([.slice [] 0 true] : List PV)) := by kernel_rfl
theorem sz198 : szT Tryz.prog 198 = some 1 := by kernel_rfl
theorem by198 : byT Tryz.prog 198 = some 8 := by kernel_rfl
theorem sz199 : szT Tryz.prog 199 = some 1 := by kernel_rfl
theorem by199 : byT Tryz.prog 199 = some 8 := by kernel_rfl
theorem sz200 : szT Tryz.prog 200 = some 1 := by kernel_rfl
theorem by200 : byT Tryz.prog 200 = some 8 := by kernel_rfl
theorem sz201 : szT Tryz.prog 201 = some 1 := by kernel_rfl
theorem by201 : byT Tryz.prog 201 = some 4 := by kernel_rfl
theorem zc201 : zcells Tryz.prog 201 = some (([.int .u32 0] : List PV)) := by kernel_rfl
theorem sz202 : szT Tryz.prog 202 = some 1 := by kernel_rfl
theorem by202 : byT Tryz.prog 202 = some 8 := by kernel_rfl
theorem sz203 : szT Tryz.prog 203 = some 1 := by kernel_rfl
theorem by203 : byT Tryz.prog 203 = some 8 := by kernel_rfl
theorem sz204 : szT Tryz.prog 204 = some 1 := by kernel_rfl
theorem by204 : byT Tryz.prog 204 = some 8 := by kernel_rfl
theorem sz205 : szT Tryz.prog 205 = some 1 := by kernel_rfl
theorem by205 : byT Tryz.prog 205 = some 0 := by kernel_rfl
theorem sz206 : szT Tryz.prog 206 = some 1 := by kernel_rfl
theorem by206 : byT Tryz.prog 206 = some 8 := by kernel_rfl
theorem zc206 : zcells Tryz.prog 206 = some (([.nilp] : List PV)) := by kernel_rfl
theorem sz207 : szT Tryz.prog 207 = some 1 := by kernel_rfl
theorem by207 : byT Tryz.prog 207 = some 0 := by kernel_rfl
theorem sz208 : szT Tryz.prog 208 = some 1 := by kernel_rfl
theorem by208 : byT Tryz.prog 208 = some 8 := by kernel_rfl
theorem sz209 : szT Tryz.prog 209 = some 1 := by kernel_rfl
theorem by209 : byT Tryz.prog 209 = some 0 := by kernel_rfl
theorem sz210 : szT Tryz.prog 210 = some 1 := by kernel_rfl
theorem by210 : byT Tryz.prog 210 = some 8 := by kernel_rfl
theorem sz211 : szT Tryz.prog 211 = some 1 := by kernel_rfl
theorem by211 : byT Tryz.prog 211 = some 0 := by kernel_rfl
theorem sz212 : szT Tryz.prog 212 = some 1 := by kernel_rfl
theorem by212 : byT Tryz.prog 212 = some 8 := by kernel_rfl
theorem sz213 : szT Tryz.prog 213 = some 4 := by kernel_rfl
theorem by213 : byT Tryz.prog 213 = some 32 := by kernel_rfl
theorem zc213 : zcells Tryz.prog 213 = some (([.int .i64 0, .int .i64 0, .int .i64 0, .int .i64 0] : List PV)) := by kernel_rfl
theorem sz214 : szT Tryz.prog 214 = some 4 := by kernel_rfl
theorem by214 : byT Tryz.prog 214 = some 32 := by kernel_rfl
theorem zc214 : zcells Tryz.prog 214 = some (([.int .i64 0, .int .i64 0, .int .i64 0, .int .i64 0] : List PV)) := by kernel_rfl
theorem sz215 : szT Tryz.prog 215 = some 1 := by kernel_rfl
theorem by215 : byT Tryz.prog 215 = some 0 := by kernel_rfl
theorem sz216 : szT Tryz.prog 216 = some 1 := by kernel_rfl
theorem by216 : byT Tryz.prog 216 = some 8 := by kernel_rfl
theorem sz217 : szT Tryz.prog 217 = some 1 := by kernel_rfl
theorem by217 : byT Tryz.prog 217 = some 8 := by kernel_rfl
theorem sz218 : szT Tryz.prog 218 = some 1 := by kernel_rfl
theorem by218 : byT Tryz.prog 218 = some 8 := by kernel_rfl
theorem sz219 : szT Tryz.prog 219 = some 139 := by kernel_rfl
theorem by219 : byT Tryz.prog 219 = some 216 := by kernel_rfl
theorem zc219 : zcells Tryz.prog 219 = some (([.int .i64 0, .int .i64 0, .int .i64 0, .int .i64 0, .bool false, .int .i64 0, .int .i64 0] : List PV) ++ (List.replicate 128 (PV.int .u8 0) : List PV) ++ ([.bool false, .int .i64 0, .bool false, .int .i64 0] : List PV)) := by kernel_rfl
theorem sz220 : szT Tryz.prog 220 = some 139 := by kernel_rfl
theorem by220 : byT Tryz.prog 220 = some 216 := by kernel_rfl
theorem zc220 : zcells Tryz.prog 220 = some (([.int .i64 0, .int .i64 0, .int .i64 0, .int .i64 0, .bool false, .int .i64 0, .int .i64 0] : List PV) ++ (List.replicate 128 (PV.int .u8 0) : List PV) ++ ([.bool false, .int .i64 0, .bool false, .int .i64 0] : List PV)) := by kernel_rfl
theorem sz221 : szT Tryz.prog 221 = some 1 := by kernel_rfl
theorem by221 : byT Tryz.prog 221 = some 0 := by kernel_rfl
theorem sz222 : szT Tryz.prog 222 = some 1 := by kernel_rfl
theorem by222 : byT Tryz.prog 222 = some 8 := by kernel_rfl
theorem sz223 : szT Tryz.prog 223 = some 1 := by kernel_rfl
theorem by223 : byT Tryz.prog 223 = some 8 := by kernel_rfl
theorem zc223 : zcells Tryz.prog 223 = some (([.nilp] : List PV)) := by kernel_rfl
theorem sz224 : szT Tryz.prog 224 = some 1 := by kernel_rfl
theorem by224 : byT Tryz.prog 224 = some 8 := by kernel_rfl
theorem zc224 : zcells Tryz.prog 224 = some (([.nilp] : List PV)) := by kernel_rfl
theorem sz225 : szT Tryz.prog 225 = some 1 := by kernel_rfl
theorem by225 : byT Tryz.prog 225 = some 8 := by kernel_rfl
theorem sz226 : szT Tryz.prog 226 = some 1 := by kernel_rfl
theorem by226 : byT Tryz.prog 226 = some 8 := by kernel_rfl
theorem sz227 : szT Tryz.prog 227 = some 1 := by kernel_rfl
theorem by227 : byT Tryz.prog 227 = some 8 := by kernel_rfl
theorem sz228 : szT Tryz.prog 228 = some 1 := by kernel_rfl
theorem by228 : byT Tryz.prog 228 = some 8 := by kernel_rfl
theorem sz229 : szT Tryz.prog 229 = some 1 := by kernel_rfl
theorem by229 : byT Tryz.prog 229 = some 8 := by kernel_rfl
theorem sz230 : szT Tryz.prog 230 = some 1 := by kernel_rfl
theorem by230 : byT Tryz.prog 230 = some 8 := by kernel_rfl
theorem sz231 : szT Tryz.prog 231 = some 1 := by kernel_rfl
theorem by231 : byT Tryz.prog 231 = some 8 := by kernel_rfl
theorem sz232 : szT Tryz.prog 232 = some 1 := by kernel_rfl
theorem by232 : byT Tryz.prog 232 = some 8 := by kernel_rfl
theorem zc232 : zcells Tryz.prog 232 = some (([.nilp] : List PV)) := by kernel_rfl
theorem sz233 : szT Tryz.prog 233 = some 1 := by kernel_rfl
theorem by233 : byT Tryz.prog 233 = some 8 := by kernel_rfl
theorem sz234 : szT Tryz.prog 234 = some 1 := by kernel_rfl
theorem by234 : byT Tryz.prog 234 = some 8 := by kernel_rfl
theorem zc234 : zcells Tryz.prog 234 = some (([.nilp] : List PV)) := by kernel_rfl
theorem sz235 : szT Tryz.prog 235 = some 1 := by kernel_rfl
theorem by235 : byT Tryz.prog 235 = some 0 := by kernel_rfl
theorem sz236 : szT Tryz.prog 236 = some 1 := by kernel_rfl
theorem by236 : byT Tryz.prog 236 = some 8 := by kernel_rfl
theorem sz237 : szT Tryz.prog 237 = some 1 := by kernel_rfl
theorem by237 : byT Tryz.prog 237 = some 8 := by kernel_rfl
theorem sz238 : szT Tryz.prog 238 = some 1 := by kernel_rfl
theorem by238 : byT Tryz.prog 238 = some 8 := by kernel_rfl
theorem sz239 : szT Tryz.prog 239 = some 1 := by kernel_rfl
theorem by239 : byT Tryz.prog 239 = some 8 := by kernel_rfl
theorem zc239 : zcells Tryz.prog 239 = some (([.int .u64 0] : List PV)) := by kernel_rfl
theorem sz240 : szT Tryz.prog 240 = some 1 := by kernel_rfl
theorem by240 : byT Tryz.prog 240 = some 8 := by kernel_rfl
theorem sz241 : szT Tryz.prog 241 = some 1 := by kernel_rfl
theorem by241 : byT Tryz.prog 241 = some 8 := by kernel_rfl
theorem sz242 : szT Tryz.prog 242 = some 1 := by kernel_rfl
theorem by242 : byT Tryz.prog 242 = some 8 := by kernel_rfl
theorem sz243 : szT Tryz.prog 243 = some 1 := by kernel_rfl
theorem by243 : byT Tryz.prog 243 = some 8 := by kernel_rfl
theorem sz244 : szT Tryz.prog 244 = some 1 := by kernel_rfl
theorem by244 : byT Tryz.prog 244 = some 8 := by kernel_rfl
theorem sz245 : szT Tryz.prog 245 = some 1 := by kernel_rfl
theorem by245 : byT Tryz.prog 245 = some 8 := by kernel_rfl
theorem sz246 : szT Tryz.prog 246 = some 1 := by kernel_rfl
theorem by246 : byT Tryz.prog 246 = some 24 := by kernel_rfl
theorem zc246 : zcells Tryz.prog 246 = some (([.slice [] 0 true] : List PV)) := by kernel_rfl
theorem sz247 : szT Tryz.prog 247 = some 1 := by kernel_rfl
theorem by247 : byT Tryz.prog 247 = some 8 := by kernel_rfl
theorem sz248 : szT Tryz.prog 248 = some 1 := by kernel_rfl
theorem by248 : byT Tryz.prog 248 = some 8 := by kernel_rfl
theorem sz249 : szT Tryz.prog 249 = some 1 := by kernel_rfl
theorem by249 : byT Tryz.prog 249 = some 8 := by kernel_rfl
theorem sz250 : szT Tryz.prog 250 = some 1 := by kernel_rfl
theorem by250 : byT Tryz.prog 250 = some 8 := by kernel_rfl
theorem sz251 : szT Tryz.prog 251 = some 8 := by kernel_rfl
theorem by251 : byT Tryz.prog 251 = some 64 := by kernel_rfl
theorem zc251 : zcells Tryz.prog 251 = some (([.int .i64 0, .int .i64 0, .int .i64 0, .int .i64 0, .int .i64 0, .int .i64 0, .int .i64 0, .int .i64 0] : List PV)) := by kernel_rfl
theorem sz252 : szT Tryz.prog 252 = some 64 := by kernel_rfl
theorem by252 : byT Tryz.prog 252 = some 512 := by kernel_rfl
theorem zc252 : zcells Tryz.prog 252 = some ((List.replicate 64 (PV.int .i64 0) : List PV)) := by kernel_rfl
theorem sz253 : szT Tryz.prog 253 = some 1 := by kernel_rfl
theorem by253 : byT Tryz.prog 253 = some 8 := by kernel_rfl
theorem sz254 : szT Tryz.prog 254 = some 1 := by kernel_rfl
theorem by254 : byT Tryz.prog 254 = some 8 := by kernel_rfl
theorem sz255 : szT Tryz.prog 255 = some 1 := by kernel_rfl
theorem by255 : byT Tryz.prog 255 = some 8 := by kernel_rfl
theorem sz256 : szT Tryz.prog 256 = some 1 := by kernel_rfl
theorem by256 : byT Tryz.prog 256 = some 8 := by kernel_rfl
theorem sz257 : szT Tryz.prog 257 = some 1 := by kernel_rfl
theorem by257 : byT Tryz.prog 257 = some 8 := by kernel_rfl
theorem zc257 : zcells Tryz.prog 257 = some (([.nilp] : List PV)) := by kernel_rfl
theorem sz258 : szT Tryz.prog 258 = some 1 := by kernel_rfl
theorem by258 : byT Tryz.prog 258 = some 8 := by kernel_rfl
theorem zc258 : zcells Tryz.prog 258 = some (([.int .u64 0] : List PV)) := by kernel_rfl
theorem sz259 : szT Tryz.prog 259 = some 1 := by kernel_rfl
theorem by259 : byT Tryz.prog 259 = some 8 := by kernel_rfl
theorem sz260 : szT Tryz.prog 260 = some 1 := by kernel_rfl
theorem by260 : byT Tryz.prog 260 = some 8 := by kernel_rfl
theorem sz261 : szT Tryz.prog 261 = some 1 := by kernel_rfl
theorem by261 : byT Tryz.prog 261 = some 8 := by kernel_rfl
theorem sz262 : szT Tryz.prog 262 = some 3 := by kernel_rfl
theorem by262 : byT Tryz.prog 262 = some 40 := by kernel_rfl
theorem zc262 : zcells Tryz.prog 262 = some (([.slice [] 0 true, .int .i64 0, .int .i64 0] : List PV)) := by kernel_rfl
theorem sz263 : szT Tryz.prog 263 = some 3 := by kernel_rfl
theorem by263 : byT Tryz.prog 263 = some 40 := by kernel_rfl
theorem zc263 : zcells Tryz.prog 263 = some (([.slice [] 0 true, .int .i64 0, .int .i64 0] : List PV)) := by kernel_rfl
theorem sz264 : szT Tryz.prog 264 = some 1 := by kernel_rfl
theorem by264 : byT Tryz.prog 264 = some 8 := by kernel_rfl
theorem sz265 : szT Tryz.prog 265 = some 15 := by kernel_rfl
theorem by265 : byT Tryz.prog 265 = some 112 := by kernel_rfl
theorem zc265 : zcells Tryz.prog 265 = some (([.int .i64 0, .int .i64 0, .int .i64 0, .int .i64 0, .int .i64 0, .int .i64 0, .int .i64 0, .int .i64 0, .nilp, .int .i64 0, .int .i64 0, .bool false, .bool false, .nilp, .bool false] : List PV)) := by kernel_rfl
theorem sz266 : szT Tryz.prog 266 = some 15 := by kernel_rfl
theorem by266 : byT Tryz.prog 266 = some 112 := by kernel_rfl
theorem zc266 : zcells Tryz.prog 266 = some (([.int .i64 0, .int .i64 0, .int .i64 0, .int .i64 0, .int .i64 0, .int .i64 0, .int .i64 0, .int .i64 0, .nilp, .int .i64 0, .int .i64 0, .bool false, .bool false, .nilp, .bool false] : List PV)) := by kernel_rfl
theorem sz267 : szT Tryz.prog 267 = some 1 := by kernel_rfl
theorem by267 : byT Tryz.prog 267 = some 8 := by kernel_rfl
theorem sz268 : szT Tryz.prog 268 = some 1 := by kernel_rfl
theorem by268 : byT Tryz.prog 268 = some 8 := by kernel_rfl
theorem sz269 : szT Tryz.prog 269 = some 1 := by kernel_rfl
theorem by269 : byT Tryz.prog 269 = some 8 := by kernel_rfl
theorem zc269 : zcells Tryz.prog 269 = some (([.nilp] : List PV)) := by kernel_rfl
theorem sz270 : szT Tryz.prog 270 = some 1 := by kernel_rfl
theorem by270 : byT Tryz.prog 270 = some 24 := by kernel_rfl
theorem zc270 : zcells Tryz.prog 270 = some (([.slice [] 0 true] : List PV)) := by kernel_rfl
theorem sz271 : szT Tryz.prog 271 = some 1 := by kernel_rfl
theorem by271 : byT Tryz.prog 271 = some 8 := by kernel_rfl
theorem zc271 : zcells Tryz.prog 271 = some (([.nilp] : List PV)) := by kernel_rfl
theorem sz272 : szT Tryz.prog 272 = some 1 := by kernel_rfl
theorem by272 : byT Tryz.prog 272 = some 8 := by kernel_rfl
theorem zc272 : zcells Tryz.prog 272 = some (([.nilp] : List PV)) := by kernel_rfl
theorem sz273 : szT Tryz.prog 273 = some 1 := by kernel_rfl
theorem by273 : byT Tryz.prog 273 = some 8 := by kernel_rfl
theorem sz274 : szT Tryz.prog 274 = some 1 := by kernel_rfl
theorem by274 : byT Tryz.prog 274 = some 8 := by kernel_rfl
theorem sz275 : szT Tryz.prog 275 = some 1 := by kernel_rfl
theorem by275 : byT Tryz.prog 275 = some 8 := by kernel_rfl
theorem sz276 : szT Tryz.prog 276 = some 1 := by kernel_rfl
theorem by276 : byT Tryz.prog 276 = some 8 := by kernel_rfl
theorem sz277 : szT Tryz.prog 277 = some 1 := by kernel_rfl
theorem by277 : byT Tryz.prog 277 = some 8 := by kernel_rfl
theorem sz278 : szT Tryz.prog 278 = some 1 := by kernel_rfl
theorem by278 : byT Tryz.prog 278 = some 8 := by kernel_rfl
theorem sz279 : szT Tryz.prog 279 = some 1 := by kernel_rfl
theorem by279 : byT Tryz.prog 279 = some 0 := by kernel_rfl
theorem sz280 : szT Tryz.prog 280 = some 1 := by kernel_rfl
theorem by280 : byT Tryz.prog 280 = some 8 := by kernel_rfl
theorem sz281 : szT Tryz.prog 281 = some 1 := by kernel_rfl
theorem by281 : byT Tryz.prog 281 = some 0 := by kernel_rfl
theorem sz282 : szT Tryz.prog 282 = some 1 := by kernel_rfl
theorem by282 : byT Tryz.prog 282 = some 8 := by kernel_rfl
theorem sz283 : szT Tryz.prog 283 = some 1 := by kernel_rfl
theorem by283 : byT Tryz.prog 283 = some 0 := by kernel_rfl
theorem sz284 : szT Tryz.prog 284 = some 1 := by kernel_rfl
theorem by284 : byT Tryz.prog 284 = some 8 := by kernel_rfl
theorem sz285 : szT Tryz.prog 285 = some 1 := by kernel_rfl
theorem by285 : byT Tryz.prog 285 = some 8 := by kernel_rfl
theorem sz286 : szT Tryz.prog 286 = some 1 := by kernel_rfl
theorem by286 : byT Tryz.prog 286 = some 8 := by kernel_rfl
theorem zc286 : zcells Tryz.prog 286 = some (([.int .i64 0] : List PV)) := by kernel_rfl
theorem sz287 : szT Tryz.prog 287 = some 1 := by kernel_rfl
theorem by287 : byT Tryz.prog 287 = some 0 := by kernel_rfl
theorem sz288 : szT Tryz.prog 288 = some 1 := by kernel_rfl
theorem by288 : byT Tryz.prog 288 = some 8 := by kernel_rfl
theorem sz289 : szT Tryz.prog 289 = some 1 := by kernel_rfl
theorem by289 : byT Tryz.prog 289 = some 8 := by kernel_rfl
theorem sz290 : szT Tryz.prog 290 = some 1 := by kernel_rfl
theorem by290 : byT Tryz.prog 290 = some 8 := by kernel_rfl
theorem sz291 : szT Tryz.prog 291 = some 1 := by kernel_rfl
theorem by291 : byT Tryz.prog 291 = some 8 := by kernel_rfl
theorem sz292 : szT Tryz.prog 292 = some 1 := by kernel_rfl
theorem by292 : byT Tryz.prog 292 = some 8 := by kernel_rfl
theorem sz293 : szT Tryz.prog 293 = some 1 := by kernel_rfl
theorem by293 : byT Tryz.prog 293 = some 8 := by kernel_rfl
theorem sz294 : szT Tryz.prog 294 = some 1 := by kernel_rfl
theorem by294 : byT Tryz.prog 294 = some 8 := by kernel_rfl
theorem sz295 : szT Tryz.prog 295 = some 1 := by kernel_rfl
theorem by295 : byT Tryz.prog 295 = some 0 := by kernel_rfl
theorem sz296 : szT Tryz.prog 296 = some 1 := by kernel_rfl
theorem by296 : byT Tryz.prog 296 = some 8 := by kernel_rfl
theorem sz297 : szT Tryz.prog 297 = some 1 := by kernel_rfl
theorem by297 : byT Tryz.prog 297 = some 8 := by kernel_rfl
theorem sz298 : szT Tryz.prog 298 = some 1 := by kernel_rfl
theorem by298 : byT Tryz.prog 298 = some 8 := by kernel_rfl
theorem sz299 : szT Tryz.prog 299 = some 1 := by kernel_rfl
theorem by299 : byT Tryz.prog 299 = some 8 := by kernel_rfl
theorem sz300 : szT Tryz.prog 300 = some 64 := by kernel_rfl
theorem by300 : byT Tryz.prog 300 = some 512 := by kernel_rfl
theorem zc300 : zcells Tryz.prog 300 = some ((List.replicate 64 (PV.int .i64 0) : List PV)) := by kernel_rfl
theorem sz301 : szT Tryz.prog 301 = some 1 := by kernel_rfl
theorem by301 : byT Tryz.prog 301 = some 8 := by kernel_rfl
theorem sz302 : szT Tryz.prog 302 = some 10 := by kernel_rfl
theorem by302 : byT Tryz.prog 302 = some 176 := by kernel_rfl
theorem zc302 : zcells Tryz.prog 302 = some (([.int .i64 0, .int .i64 0, .slice [] 0 true, .slice [] 0 true, .slice [] 0 true, .int .i64 0, .int .i64 0, .slice [] 0 true, .slice [] 0 true, .slice [] 0 true] : List PV)) := by kernel_rfl
theorem sz303 : szT Tryz.prog 303 = some 4 := by kernel_rfl
theorem by303 : byT Tryz.prog 303 = some 32 := by kernel_rfl
theorem zc303 : zcells Tryz.prog 303 = some (([.int .i64 0, .int .i64 0, .int .i64 0, .int .i64 0] : List PV)) := by kernel_rfl
theorem sz304 : szT Tryz.prog 304 = some 4 := by kernel_rfl
theorem by304 : byT Tryz.prog 304 = some 32 := by kernel_rfl
theorem zc304 : zcells Tryz.prog 304 = some (([.int .i64 0, .int .i64 0, .int .i64 0, .int .i64 0] : List PV)) := by kernel_rfl
theorem sz305 : szT Tryz.prog 305 = some 1 := by kernel_rfl
theorem by305 : byT Tryz.prog 305 = some 8 := by kernel_rfl
theorem sz306 : szT Tryz.prog 306 = some 1 := by kernel_rfl
theorem by306 : byT Tryz.prog 306 = some 8 := by kernel_rfl
theorem sz307 : szT Tryz.prog 307 = some 1 := by kernel_rfl
theorem by307 : byT Tryz.prog 307 = some 8 := by kernel_rfl
theorem sz308 : szT Tryz.prog 308 = some 1 := by kernel_rfl
theorem by308 : byT Tryz.prog 308 = some 8 := by kernel_rfl
theorem sz309 : szT Tryz.prog 309 = some 1 := by kernel_rfl
theorem by309 : byT Tryz.prog 309 = some 0 := by kernel_rfl
theorem sz310 : szT Tryz.prog 310 = some 1 := by kernel_rfl
theorem by310 : byT Tryz.prog 310 = some 8 := by kernel_rfl
theorem sz311 : szT Tryz.prog 311 = some 1 := by kernel_rfl
theorem by311 : byT Tryz.prog 311 = some 0 := by kernel_rfl
theorem sz312 : szT Tryz.prog 312 = some 1 := by kernel_rfl
theorem by312 : byT Tryz.prog 312 = some 8 := by kernel_rfl
theorem sz313 : szT Tryz.prog 313 = some 1 := by kernel_rfl
theorem by313 : byT Tryz.prog 313 = some 8 := by kernel_rfl
theorem sz314 : szT Tryz.prog 314 = some 1 := by kernel_rfl
theorem by314 : byT Tryz.prog 314 = some 8 := by kernel_rfl
theorem zc314 : zcells Tryz.prog 314 = some (([.nilp] : List PV)) := by kernel_rfl
theorem sz315 : szT Tryz.prog 315 = some 1 := by kernel_rfl
theorem by315 : byT Tryz.prog 315 = some 8 := by kernel_rfl
theorem sz316 : szT Tryz.prog 316 = some 1 := by kernel_rfl
theorem by316 : byT Tryz.prog 316 = some 8 := by kernel_rfl
theorem sz317 : szT Tryz.prog 317 = some 1 := by kernel_rfl
theorem by317 : byT Tryz.prog 317 = some 8 := by kernel_rfl
theorem sz318 : szT Tryz.prog 318 = some 2 := by kernel_rfl
theorem by318 : byT Tryz.prog 318 = some 16 := by kernel_rfl
theorem zc318 : zcells Tryz.prog 318 = some (([.nilp, .int .i64 0] : List PV)) := by kernel_rfl
theorem sz319 : szT Tryz.prog 319 = some 2 := by kernel_rfl
theorem by319 : byT Tryz.prog 319 = some 16 := by kernel_rfl
theorem zc319 : zcells Tryz.prog 319 = some (([.nilp, .int .i64 0] : List PV)) := by kernel_rfl
theorem sz320 : szT Tryz.prog 320 = some 1 := by kernel_rfl
theorem by320 : byT Tryz.prog 320 = some 8 := by kernel_rfl
theorem sz321 : szT Tryz.prog 321 = some 1 := by kernel_rfl
theorem by321 : byT Tryz.prog 321 = some 8 := by kernel_rfl
theorem zc321 : zcells Tryz.prog 321 = some (([.int .u64 0] : List PV)) := by kernel_rfl
theorem sz322 : szT Tryz.prog 322 = some 1 := by kernel_rfl
theorem by322 : byT Tryz.prog 322 = some 8 := by kernel_rfl
theorem sz323 : szT Tryz.prog 323 = some 1 := by kernel_rfl
theorem by323 : byT Tryz.prog 323 = some 8 := by kernel_rfl
theorem sz324 : szT Tryz.prog 324 = some 1 := by kernel_rfl
theorem by324 : byT Tryz.prog 324 = some 8 := by kernel_rfl
theorem sz325 : szT Tryz.prog 325 = some 1 := by kernel_rfl
theorem by325 : byT Tryz.prog 325 = some 8 := by kernel_rfl
theorem sz326 : szT Tryz.prog 326 = some 1 := by kernel_rfl
theorem by326 : byT Tryz.prog 326 = some 0 := by kernel_rfl
theorem sz327 : szT Tryz.prog 327 = some 1 := by kernel_rfl
theorem by327 : byT Tryz.prog 327 = some 8 := by kernel_rfl
theorem sz328 : szT Tryz.prog 328 = some 1 := by kernel_rfl
theorem by328 : byT Tryz.prog 328 = some 0 := by kernel_rfl
theorem sz329 : szT Tryz.prog 329 = some 1 := by kernel_rfl
theorem by329 : byT Tryz.prog 329 = some 8 := by kernel_rfl
theorem sz330 : szT Tryz.prog 330 = some 1 := by kernel_rfl
theorem by330 : byT Tryz.prog 330 = some 8 := by kernel_rfl
theorem sz331 : szT Tryz.prog 331 = some 1 := by kernel_rfl
theorem by331 : byT Tryz.prog 331 = some 8 := by kernel_rfl
theorem sz332 : szT Tryz.prog 332 = some 1 := by kernel_rfl
theorem by332 : byT Tryz.prog 332 = some 8 := by kernel_rfl
theorem sz333 : szT Tryz.prog 333 = some 1 := by kernel_rfl
theorem by333 : byT Tryz.prog 333 = some 24 := by kernel_rfl
theorem zc333 : zcells Tryz.prog 333 = some (([.slice [] 0 true] : List PV)) := by kernel_rfl
theorem sz334 : szT Tryz.prog 334 = some 1 := by kernel_rfl
theorem by334 : byT Tryz.prog 334 = some 8 := by kernel_rfl
theorem zc334 : zcells Tryz.prog 334 = some (([.nilp] : List PV)) := by kernel_rfl
theorem sz335 : szT Tryz.prog 335 = some 1 := by kernel_rfl
theorem by335 : byT Tryz.prog 335 = some 8 := by kernel_rfl
theorem zc335 : zcells Tryz.prog 335 = some (([.int .i64 0] : List PV)) := by kernel_rfl
theorem sz336 : szT Tryz.prog 336 = some 1 := by kernel_rfl
theorem by336 : byT Tryz.prog 336 = some 8 := by kernel_rfl
theorem zc336 : zcells Tryz.prog 336 = some (([.int .i64 0] : List PV)) := by kernel_rfl
theorem sz337 : szT Tryz.prog 337 = some 1 := by kernel_rfl
theorem by337 : byT Tryz.prog 337 = some 0 := by kernel_rfl
theorem sz338 : szT Tryz.prog 338 = some 1 := by kernel_rfl
theorem by338 : byT Tryz.prog 338 = some 8 := by kernel_rfl
theorem sz339 : szT Tryz.prog 339 = some 1 := by kernel_rfl
theorem by339 : byT Tryz.prog 339 = some 8 := by kernel_rfl
theorem zc339 : zcells Tryz.prog 339 = some (([.nilp] : List PV)) := by kernel_rfl
theorem sz340 : szT Tryz.prog 340 = some 1 := by kernel_rfl
theorem by340 : byT Tryz.prog 340 = some 8 := by kernel_rfl
theorem zc340 : zcells Tryz.prog 340 = some (([.nilp] : List PV)) := by kernel_rfl
theorem sz341 : szT Tryz.prog 341 = some 1 := by kernel_rfl
theorem by341 : byT Tryz.prog 341 = some 0 := by kernel_rfl
theorem sz342 : szT Tryz.prog 342 = some 1 := by kernel_rfl
theorem by342 : byT Tryz.prog 342 = some 8 := by kernel_rfl
theorem sz343 : szT Tryz.prog 343 = some 1 := by kernel_rfl
theorem by343 : byT Tryz.prog 343 = some 8 := by kernel_rfl
theorem sz344 : szT Tryz.prog 344 = some 1 := by kernel_rfl
theorem by344 : byT Tryz.prog 344 = some 8 := by kernel_rfl
theorem sz345 : szT Tryz.prog 345 = some 1 := by kernel_rfl
theorem by345 : byT Tryz.prog 345 = some 8 := by kernel_rfl
theorem sz346 : szT Tryz.prog 346 = some 1 := by kernel_rfl
theorem by346 : byT Tryz.prog 346 = some 8 := by kernel_rfl
theorem sz347 : szT Tryz.prog 347 = some 1 := by kernel_rfl
theorem by347 : byT Tryz.prog 347 = some 8 := by kernel_rfl
theorem sz348 : szT Tryz.prog 348 = some 1 := by kernel_rfl
theorem by348 : byT Tryz.prog 348 = some 8 := by kernel_rfl
theorem sz349 : szT Tryz.prog 349 = some 1 := by kernel_rfl
theorem by349 : byT Tryz.prog 349 = some 8 := by kernel_rfl
theorem sz350 : szT Tryz.prog 350 = some 1 := by kernel_rfl
theorem by350 : byT Tryz.prog 350 = some 8 := by kernel_rfl
theorem sz351 : szT Tryz.prog 351 = some 1 := by kernel_rfl
theorem by351 : byT Tryz.prog 351 = some 8 := by kernel_rfl
theorem sz352 : szT Tryz.prog 352 = some 1 := by kernel_rfl
theorem by352 : byT Tryz.prog 352 = some 8 := by kernel_rfl
theorem sz353 : szT Tryz.prog 353 = some 1 := by kernel_rfl
theorem by353 : byT Tryz.prog 353 = some 8 := by kernel_rfl
theorem sz354 : szT Tryz.prog 354 = some 1 := by kernel_rfl
theorem by354 : byT Tryz.prog 354 = some 8 := by kernel_rfl
theorem sz355 : szT Tryz.prog 355 = some 4 := by kernel_rfl
theorem by355 : byT Tryz.prog 355 = some 40 := by kernel_rfl
theorem zc355 : zcells Tryz.prog 355 = some (([.nilp, .nilp, .nilp, .str []] : List PV)) := by kernel_rfl
theorem sz356 : szT Tryz.prog 356 = some 4 := by kernel_rfl
theorem by356 : byT Tryz.prog 356 = some 40 := by kernel_rfl
theorem zc356 : zcells Tryz.prog 356 = some (([.nilp, .nilp, .nilp, .str []] : List PV)) := by kernel_rfl
theorem sz357 : szT Tryz.prog 357 = some 0 := by kernel_rfl
theorem by357 : byT Tryz.prog 357 = some 0 := by kernel_rfl
theorem zc357 : zcells Tryz.prog 357 = some (([] : List PV)) := by kernel_rfl
theorem sz358 : szT Tryz.prog 358 = some 0 := by kernel_rfl
theorem by358 : byT Tryz.prog 358 = some 0 := by kernel_rfl
theorem zc358 : zcells Tryz.prog 358 = some (([] : List PV)) := by kernel_rfl
theorem sz359 : szT Tryz.prog 359 = some 0 := by kernel_rfl
theorem by359 : byT Tryz.prog 359 = some 0 := by kernel_rfl
theorem zc359 : zcells Tryz.prog 359 = some (([] : List PV)) := by kernel_rfl
theorem sz360 : szT Tryz.prog 360 = some 1 := by kernel_rfl
theorem by360 : byT Tryz.prog 360 = some 1 := by kernel_rfl
theorem zc360 : zcells Tryz.prog 360 = some (([.int .u8 0] : List PV)) := by kernel_rfl
theorem sz361 : szT Tryz.prog 361 = some 1 := by kernel_rfl
theorem by361 : byT Tryz.prog 361 = some 1 := by kernel_rfl
theorem zc361 : zcells Tryz.prog 361 = some (([.int .u8 0] : List PV)) := by kernel_rfl
theorem sz362 : szT Tryz.prog 362 = some 1 := by kernel_rfl
theorem by362 : byT Tryz.prog 362 = some 8 := by kernel_rfl
theorem sz363 : szT Tryz.prog 363 = some 1 := by kernel_rfl
theorem by363 : byT Tryz.prog 363 = some 8 := by kernel_rfl
theorem zc363 : zcells Tryz.prog 363 = some (([.nilp] : List PV)) := by kernel_rfl
theorem sz364 : szT Tryz.prog 364 = some 1 := by kernel_rfl
theorem by364 : byT Tryz.prog 364 = some 4 := by kernel_rfl
theorem zc364 : zcells Tryz.prog 364 = some (([.int .i32 0] : List PV)) := by kernel_rfl
theorem sz365 : szT Tryz.prog 365 = some 1 := by kernel_rfl
theorem by365 : byT Tryz.prog 365 = some 4 := by kernel_rfl
theorem zc365 : zcells Tryz.prog 365 = some (([.int .i32 0] : List PV)) := by kernel_rfl
theorem sz366 : szT Tryz.prog 366 = some 11 := by kernel_rfl
theorem by366 : byT Tryz.prog 366 = some 48 := by kernel_rfl
theorem sz367 : szT Tryz.prog 367 = some 11 := by kernel_rfl
theorem by367 : byT Tryz.prog 367 = some 48 := by kernel_rfl
theorem sz368 : szT Tryz.prog 368 = some 1 := by kernel_rfl
theorem by368 : byT Tryz.prog 368 = some 8 := by kernel_rfl
theorem zc368 : zcells Tryz.prog 368 = some (([.nilp] : List PV)) := by kernel_rfl
theorem mix : Tryz.prog.follows .mixedOrders = true := by kernel_rfl
attribute [go_sem] sz0 sz1 sz2 sz3 sz4 sz5 sz6 sz7 sz8 sz9 sz10 sz11 sz12 sz13 sz14 sz15 sz16 sz17 sz18 sz19 sz20 sz21 sz22 sz23 sz24 sz25 sz26 sz27 sz28 sz29 sz30 sz31 sz32 sz33 sz34 sz35 sz36 sz37 sz38 sz39
attribute [go_sem] sz40 sz41 sz42 sz43 sz44 sz45 sz46 sz47 sz48 sz49 sz50 sz51 sz52 sz53 sz54 sz55 sz56 sz57 sz58 sz59 sz60 sz61 sz62 sz63 sz64 sz65 sz66 sz67 sz68 sz69 sz70 sz71 sz72 sz73 sz74 sz75 sz76 sz77 sz78 sz79
attribute [go_sem] sz80 sz81 sz82 sz83 sz84 sz85 sz86 sz87 sz88 sz89 sz90 sz91 sz92 sz93 sz94 sz95 sz96 sz97 sz98 sz99 sz100 sz101 sz102 sz103 sz104 sz105 sz106 sz107 sz108 sz109 sz110 sz111 sz112 sz113 sz114 sz115 sz116 sz117 sz118 sz119
attribute [go_sem] sz120 sz121 sz122 sz123 sz124 sz125 sz126 sz127 sz128 sz129 sz130 sz131 sz132 sz133 sz134 sz135 sz136 sz137 sz138 sz139 sz140 sz141 sz142 sz143 sz144 sz145 sz146 sz147 sz148 sz149 sz150 sz151 sz152 sz153 sz154 sz155 sz156 sz157 sz158 sz159
attribute [go_sem] sz160 sz161 sz162 sz163 sz164 sz165 sz166 sz167 sz168 sz169 sz170 sz171 sz172 sz173 sz174 sz175 sz176 sz177 sz178 sz179 sz180 sz181 sz182 sz183 sz184 sz185 sz186 sz187 sz188 sz189 sz190 sz191 sz192 sz193 sz194 sz195 sz196 sz197 sz198 sz199
attribute [go_sem] sz200 sz201 sz202 sz203 sz204 sz205 sz206 sz207 sz208 sz209 sz210 sz211 sz212 sz213 sz214 sz215 sz216 sz217 sz218 sz219 sz220 sz221 sz222 sz223 sz224 sz225 sz226 sz227 sz228 sz229 sz230 sz231 sz232 sz233 sz234 sz235 sz236 sz237 sz238 sz239
attribute [go_sem] sz240 sz241 sz242 sz243 sz244 sz245 sz246 sz247 sz248 sz249 sz250 sz251 sz252 sz253 sz254 sz255 sz256 sz257 sz258 sz259 sz260 sz261 sz262 sz263 sz264 sz265 sz266 sz267 sz268 sz269 sz270 sz271 sz272 sz273 sz274 sz275 sz276 sz277 sz278 sz279
attribute [go_sem] sz280 sz281 sz282 sz283 sz284 sz285 sz286 sz287 sz288 sz289 sz290 sz291 sz292 sz293 sz294 sz295 sz296 sz297 sz298 sz299 sz300 sz301 sz302 sz303 sz304 sz305 sz306 sz307 sz308 sz309 sz310 sz311 sz312 sz313 sz314 sz315 sz316 sz317 sz318 sz319
attribute [go_sem] sz320 sz321 sz322 sz323 sz324 sz325 sz326 sz327 sz328 sz329 sz330 sz331 sz332 sz333 sz334 sz335 sz336 sz337 sz338 sz339 sz340 sz341 sz342 sz343 sz344 sz345 sz346 sz347 sz348 sz349 sz350 sz351 sz352 sz353 sz354 sz355 sz356 sz357 sz358 sz359
attribute [go_sem] sz360 sz361 sz362 sz363 sz364 sz365 sz366 sz367 sz368 by0 by1 by2 by3 by4 by5 by6 by7 by8 by9 by10 by11 by12 by13 by14 by15 by16 by17 by18 by19 by20 by21 by22 by23 by24 by25 by26 by27 by28 by29 by30
attribute [go_sem] by31 by32 by33 by34 by35 by36 by37 by38 by39 by40 by41 by42 by43 by44 by45 by46 by47 by48 by49 by50 by51 by52 by53 by54 by55 by56 by57 by58 by59 by60 by61 by62 by63 by64 by65 by66 by67 by68 by69 by70
attribute [go_sem] by71 by72 by73 by74 by75 by76 by77 by78 by79 by80 by81 by82 by83 by84 by85 by86 by87 by88 by89 by90 by91 by92 by93 by94 by95 by96 by97 by98 by99 by100 by101 by102 by103 by104 by105 by106 by107 by108 by109 by110
attribute [go_sem] by111 by112 by113 by114 by115 by116 by117 by118 by119 by120 by121 by122 by123 by124 by125 by126 by127 by128 by129 by130 by131 by132 by133 by134 by135 by136 by137 by138 by139 by140 by141 by142 by143 by144 by145 by146 by147 by148 by149 by150
attribute [go_sem] by151 by152 by153 by154 by155 by156 by157 by158 by159 by160 by161 by162 by163 by164 by165 by166 by167 by168 by169 by170 by171 by172 by173 by174 by175 by176 by177 by178 by179 by180 by181 by182 by183 by184 by185 by186 by187 by188 by189 by190
attribute [go_sem] by191 by192 by193 by194 by195 by196 by197 by198 by199 by200 by201 by202 by203 by204 by205 by206 by207 by208 by209 by210 by211 by212 by213 by214 by215 by216 by217 by218 by219 by220 by221 by222 by223 by224 by225 by226 by227 by228 by229 by230
attribute [go_sem] by231 by232 by233 by234 by235 by236 by237 by238 by239 by240 by241 by242 by243 by244 by245 by246 by247 by248 by249 by250 by251 by252 by253 by254 by255 by256 by257 by258 by259 by260 by261 by262 by263 by264 by265 by266 by267 by268 by269 by270
attribute [go_sem] by271 by272 by273 by274 by275 by276 by277 by278 by279 by280 by281 by282 by283 by284 by285 by286 by287 by288 by289 by290 by291 by292 by293 by294 by295 by296 by297 by298 by299 by300 by301 by302 by303 by304 by305 by306 by307 by308 by309 by310
attribute [go_sem] by311 by312 by313 by314 by315 by316 by317 by318 by319 by320 by321 by322 by323 by324 by325 by326 by327 by328 by329 by330 by331 by332 by333 by334 by335 by336 by337 by338 by339 by340 by341 by342 by343 by344 by345 by346 by347 by348 by349 by350
attribute [go_sem] by351 by352 by353 by354 by355 by356 by357 by358 by359 by360 by361 by362 by363 by364 by365 by366 by367 by368 zc2 zc3 zc4 zc5 zc6 zc7 zc8 zc9 zc10 zc11 zc12 zc13 zc14 zc15 zc16 zc17 zc18 zc19 zc21 zc22 zc24 zc26
attribute [go_sem] zc28 zc29 zc30 zc32 zc33 zc34 zc35 zc36 zc37 zc38 zc39 zc40 zc41 zc42 zc43 zc44 zc45 zc46 zc47 zc48 zc49 zc50 zc51 zc52 zc53 zc54 zc55 zc56 zc57 zc59 zc69 zc70 zc72 zc73 zc74 zc75 zc78 zc84 zc85 zc86
attribute [go_sem] zc87 zc88 zc89 zc90 zc92 zc93 zc94 zc95 zc99 zc104 zc116 zc118 zc119 zc120 zc140 zc146 zc147 zc151 zc152 zc156 zc159 zc160 zc161 zc162 zc164 zc165 zc173 zc191 zc192 zc193 zc194 zc196 zc197 zc201 zc206 zc213 zc214 zc219 zc220 zc223
attribute [go_sem] zc224 zc232 zc234 zc239 zc246 zc251 zc252 zc257 zc258 zc262 zc263 zc265 zc266 zc269 zc270 zc271 zc272 zc286 zc300 zc302 zc303 zc304 zc314 zc318 zc319 zc321 zc333 zc334 zc335 zc336 zc339 zc340 zc355 zc356 zc357 zc358 zc359 zc360 zc361 zc363
attribute [go_sem] zc364 zc365 zc368 Tryz.underlying0 Tryz.underlying1 Tryz.underlying2 Tryz.underlying3 Tryz.underlying4 Tryz.underlying5 Tryz.underlying6 Tryz.underlying7 Tryz.underlying8 Tryz.underlying9 Tryz.underlying10 Tryz.underlying11 Tryz.underlying12 Tryz.underlying13 Tryz.underlying14 Tryz.underlying15 Tryz.underlying16 Tryz.underlying17 Tryz.underlying18 Tryz.underlying19 Tryz.underlying20 Tryz.underlying21 Tryz.underlying22 Tryz.underlying23 Tryz.underlying24 Tryz.underlying25 Tryz.underlying26 Tryz.underlying27 Tryz.underlying28 Tryz.underlying29 Tryz.underlying30 Tryz.underlying31 Tryz.underlying32 Tryz.underlying33 Tryz.underlying34 Tryz.underlying35 Tryz.underlying36
attribute [go_sem] Tryz.underlying37 Tryz.underlying38 Tryz.underlying39 Tryz.underlying40 Tryz.underlying41 Tryz.underlying42 Tryz.underlying43 Tryz.underlying44 Tryz.underlying45 Tryz.underlying46 Tryz.underlying47 Tryz.underlying48 Tryz.underlying49 Tryz.underlying50 Tryz.underlying51 Tryz.underlying52 Tryz.underlying53 Tryz.underlying54 Tryz.underlying55 Tryz.underlying56 Tryz.underlying57 Tryz.underlying58 Tryz.underlying59 Tryz.underlying60 Tryz.underlying61 Tryz.underlying62 Tryz.underlying63 Tryz.underlying64 Tryz.underlying65 Tryz.underlying66 Tryz.underlying67 Tryz.underlying68 Tryz.underlying69 Tryz.underlying70 Tryz.underlying71 Tryz.underlying72 Tryz.underlying73 Tryz.underlying74 Tryz.underlying75 Tryz.underlying76
attribute [go_sem] Tryz.underlying77 Tryz.underlying78 Tryz.underlying79 Tryz.underlying80 Tryz.underlying81 Tryz.underlying82 Tryz.underlying83 Tryz.underlying84 Tryz.underlying85 Tryz.underlying86 Tryz.underlying87 Tryz.underlying88 Tryz.underlying89 Tryz.underlying90 Tryz.underlying91 Tryz.underlying92 Tryz.underlying93 Tryz.underlying94 Tryz.underlying95 Tryz.underlying96 Tryz.underlying97 Tryz.underlying98 Tryz.underlying99 Tryz.underlying100 Tryz.underlying101 Tryz.underlying102 Tryz.underlying103 Tryz.underlying104 Tryz.underlying105 Tryz.underlying106 Tryz.underlying107 Tryz.underlying108 Tryz.underlying109 Tryz.underlying110 Tryz.underlying111 Tryz.underlying112 Tryz.underlying113 Tryz.underlying114 Tryz.underlying115 Tryz.underlying116
attribute [go_sem] Tryz.underlying117 Tryz.underlying118 Tryz.underlying119 Tryz.underlying120 Tryz.underlying121 Tryz.underlying122 Tryz.underlying123 Tryz.underlying124 Tryz.underlying125 Tryz.underlying126 Tryz.underlying127 Tryz.underlying128 Tryz.underlying129 Tryz.underlying130 Tryz.underlying131 Tryz.underlying132 Tryz.underlying133 Tryz.underlying134 Tryz.underlying135 Tryz.underlying136 Tryz.underlying137 Tryz.underlying138 Tryz.underlying139 Tryz.underlying140 Tryz.underlying141 Tryz.underlying142 Tryz.underlying143 Tryz.underlying144 Tryz.underlying145 Tryz.underlying146 Tryz.underlying147 Tryz.underlying148 Tryz.underlying149 Tryz.underlying150 Tryz.underlying151 Tryz.underlying152 Tryz.underlying153 Tryz.underlying154 Tryz.underlying155 Tryz.underlying156
attribute [go_sem] Tryz.underlying157 Tryz.underlying158 Tryz.underlying159 Tryz.underlying160 Tryz.underlying161 Tryz.underlying162 Tryz.underlying163 Tryz.underlying164 Tryz.underlying165 Tryz.underlying166 Tryz.underlying167 Tryz.underlying168 Tryz.underlying169 Tryz.underlying170 Tryz.underlying171 Tryz.underlying172 Tryz.underlying173 Tryz.underlying174 Tryz.underlying175 Tryz.underlying176 Tryz.underlying177 Tryz.underlying178 Tryz.underlying179 Tryz.underlying180 Tryz.underlying181 Tryz.underlying182 Tryz.underlying183 Tryz.underlying184 Tryz.underlying185 Tryz.underlying186 Tryz.underlying187 Tryz.underlying188 Tryz.underlying189 Tryz.underlying190 Tryz.underlying191 Tryz.underlying192 Tryz.underlying193 Tryz.underlying194 Tryz.underlying195 Tryz.underlying196
attribute [go_sem] Tryz.underlying197 Tryz.underlying198 Tryz.underlying199 Tryz.underlying200 Tryz.underlying201 Tryz.underlying202 Tryz.underlying203 Tryz.underlying204 Tryz.underlying205 Tryz.underlying206 Tryz.underlying207 Tryz.underlying208 Tryz.underlying209 Tryz.underlying210 Tryz.underlying211 Tryz.underlying212 Tryz.underlying213 Tryz.underlying214 Tryz.underlying215 Tryz.underlying216 Tryz.underlying217 Tryz.underlying218 Tryz.underlying219 Tryz.underlying220 Tryz.underlying221 Tryz.underlying222 Tryz.underlying223 Tryz.underlying224 Tryz.underlying225 Tryz.underlying226 Tryz.underlying227 Tryz.underlying228 Tryz.underlying229 Tryz.underlying230 Tryz.underlying231 Tryz.underlying232 Tryz.underlying233 Tryz.underlying234 Tryz.underlying235 Tryz.underlying236
attribute [go_sem] Tryz.underlying237 Tryz.underlying238 Tryz.underlying239 Tryz.underlying240 Tryz.underlying241 Tryz.underlying242 Tryz.underlying243 Tryz.underlying244 Tryz.underlying245 Tryz.underlying246 Tryz.underlying247 Tryz.underlying248 Tryz.underlying249 Tryz.underlying250 Tryz.underlying251 Tryz.underlying252 Tryz.underlying253 Tryz.underlying254 Tryz.underlying255 Tryz.underlying256 Tryz.underlying257 Tryz.underlying258 Tryz.underlying259 Tryz.underlying260 Tryz.underlying261 Tryz.underlying262 Tryz.underlying263 Tryz.underlying264 Tryz.underlying265 Tryz.underlying266 Tryz.underlying267 Tryz.underlying268 Tryz.underlying269 Tryz.underlying270 Tryz.underlying271 Tryz.underlying272 Tryz.underlying273 Tryz.underlying274 Tryz.underlying275 Tryz.underlying276
attribute [go_sem] Tryz.underlying277 Tryz.underlying278 Tryz.underlying279 Tryz.underlying280 Tryz.underlying281 Tryz.underlying282 Tryz.underlying283 Tryz.underlying284 Tryz.underlying285 Tryz.underlying286 Tryz.underlying287 Tryz.underlying288 Tryz.underlying289 Tryz.underlying290 Tryz.underlying291 Tryz.underlying292 Tryz.underlying293 Tryz.underlying294 Tryz.underlying295 Tryz.underlying296 Tryz.underlying297 Tryz.underlying298 Tryz.underlying299 Tryz.underlying300 Tryz.underlying301 Tryz.underlying302 Tryz.underlying303 Tryz.underlying304 Tryz.underlying305 Tryz.underlying306 Tryz.underlying307 Tryz.underlying308 Tryz.underlying309 Tryz.underlying310 Tryz.underlying311 Tryz.underlying312 Tryz.underlying313 Tryz.underlying314 Tryz.underlying315 Tryz.underlying316
attribute [go_sem] Tryz.underlying317 Tryz.underlying318 Tryz.underlying319 Tryz.underlying320 Tryz.underlying321 Tryz.underlying322 Tryz.underlying323 Tryz.underlying324 Tryz.underlying325 Tryz.underlying326 Tryz.underlying327 Tryz.underlying328 Tryz.underlying329 Tryz.underlying330 Tryz.underlying331 Tryz.underlying332 Tryz.underlying333 Tryz.underlying334 Tryz.underlying335 Tryz.underlying336 Tryz.underlying337 Tryz.underlying338 Tryz.underlying339 Tryz.underlying340 Tryz.underlying341 Tryz.underlying342 Tryz.underlying343 Tryz.underlying344 Tryz.underlying345 Tryz.underlying346 Tryz.underlying347 Tryz.underlying348 Tryz.underlying349 Tryz.underlying350 Tryz.underlying351 Tryz.underlying352 Tryz.underlying353 Tryz.underlying354 Tryz.underlying355 Tryz.underlying356
attribute [go_sem] Tryz.underlying357 Tryz.underlying358 Tryz.underlying359 Tryz.underlying360 Tryz.underlying361 Tryz.underlying362 Tryz.underlying363 Tryz.underlying364 Tryz.underlying365 Tryz.underlying366 Tryz.underlying367 Tryz.underlying368 Tryz.eqGuardType36 Tryz.eqGuardType39 Tryz.eqGuardType42 Tryz.eqGuardType43 Tryz.eqGuardType44 Tryz.eqGuardType45 Tryz.eqGuardType46 Tryz.eqGuardType47 Tryz.eqGuardType48 Tryz.eqGuardType118 Tryz.eqGuardType251 Tryz.eqGuardType252 Tryz.eqGuardType300 Tryz.eqGuardType302 Tryz.eqGuardType357
end Go.Proofs.YtahomnplappbpaaGreatDoor.Ty
