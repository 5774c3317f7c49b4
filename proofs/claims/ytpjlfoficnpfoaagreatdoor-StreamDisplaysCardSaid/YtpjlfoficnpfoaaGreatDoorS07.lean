/-
  Parts of the proof, put together in one text. No condition.
-/
import Derived.Test.YtpjlfoficnpfoaaGreatDoorS06
import Derived.Test.YtpjlfoficnpfoaaGreatDoorProg
import Derived.KernelRfl
import Derived.Test.YtpjlfoficnpfoaaGreatDoorRows
open Bool renaming eq_iff_iff → qB
open Int renaming tmod_eq_emod_of_nonneg → qO
open List renaming replicate → qA, getElem?_eq_none → qC, length_append → qE, take_of_length_le → qF, getElem?_eq_some_iff → qG, take_succ_eq_append_getElem → qH, mem_map → qI, ext_getElem? → qJ, getElem?_append_right → qL, getElem?_append_left → qN, drop_of_length_le → qP, mem_of_getElem? → qR
open Nat renaming beq → qD, strongRecOn → qK, mod_lt → qM, add_zero → qQ
namespace Go.Proofs.YtpjlfoficnpfoaaGreatDoor.Ty
open Pm
theorem sz0:szT Tryz.prog 0=some 1∧byT Tryz.prog 0=some 0∧szT Tryz.prog 1=some 1∧byT Tryz.prog 1=some 8∧szT Tryz.prog 2=some 1∧byT Tryz.prog 2=some 8∧szT Tryz.prog 3=some 1∧byT Tryz.prog 3=some 8∧szT Tryz.prog 4=some 1∧byT Tryz.prog 4=some 1∧szT Tryz.prog 5=some 1∧byT Tryz.prog 5=some 1∧szT Tryz.prog 6=some 1∧byT Tryz.prog 6=some 1∧szT Tryz.prog 7=some 4∧byT Tryz.prog 7=some 24∧szT Tryz.prog 8=some 4∧byT Tryz.prog 8=some 24∧szT Tryz.prog 9=some 1∧byT Tryz.prog 9=some 16∧szT Tryz.prog 16=some 1∧byT Tryz.prog 16=some 8∧szT Tryz.prog 18=some 1∧byT Tryz.prog 18=some 8∧szT Tryz.prog 19=some 1∧byT Tryz.prog 19=some 8∧szT Tryz.prog 20=some 1∧byT Tryz.prog 20=some 16∧szT Tryz.prog 22=some 1∧byT Tryz.prog 22=some 24∧szT Tryz.prog 23=some 1∧byT Tryz.prog 23=some 8∧szT Tryz.prog 24=some 1∧byT Tryz.prog 24=some 8∧szT Tryz.prog 26=some 2∧byT Tryz.prog 26=some 16∧szT Tryz.prog 27=some 64∧byT Tryz.prog 27=some 64∧szT Tryz.prog 28=some 135∧byT Tryz.prog 28=some 184:=by and_intros<;>kernel_rfl
theorem sz40:szT Tryz.prog 29=some 135∧byT Tryz.prog 29=some 184∧szT Tryz.prog 30=some 1∧byT Tryz.prog 30=some 24∧szT Tryz.prog 31=some 1∧byT Tryz.prog 31=some 24∧szT Tryz.prog 32=some 5∧byT Tryz.prog 32=some 88∧szT Tryz.prog 33=some 5∧byT Tryz.prog 33=some 88∧szT Tryz.prog 34=some 6∧byT Tryz.prog 34=some 32∧szT Tryz.prog 35=some 6∧byT Tryz.prog 35=some 32∧szT Tryz.prog 36=some 1∧byT Tryz.prog 36=some 24∧szT Tryz.prog 37=some 1∧byT Tryz.prog 37=some 24∧szT Tryz.prog 38=some 8∧byT Tryz.prog 38=some 80∧szT Tryz.prog 39=some 8∧byT Tryz.prog 39=some 80∧szT Tryz.prog 40=some 3∧byT Tryz.prog 40=some 16∧szT Tryz.prog 41=some 3∧byT Tryz.prog 41=some 16∧szT Tryz.prog 42=some 148∧byT Tryz.prog 42=some 296∧szT Tryz.prog 43=some 148∧byT Tryz.prog 43=some 296∧szT Tryz.prog 44=some 1∧byT Tryz.prog 44=some 8∧szT Tryz.prog 45=some 1∧byT Tryz.prog 45=some 0∧szT Tryz.prog 47=some 1∧byT Tryz.prog 47=some 8∧szT Tryz.prog 48=some 1∧byT Tryz.prog 48=some 8∧szT Tryz.prog 49=some 1∧byT Tryz.prog 49=some 24:=by and_intros<;>kernel_rfl
theorem sz80:szT Tryz.prog 50=some 1∧byT Tryz.prog 50=some 8∧szT Tryz.prog 52=some 11∧byT Tryz.prog 52=some 136∧szT Tryz.prog 53=some 11∧byT Tryz.prog 53=some 136∧szT Tryz.prog 54=some 1∧byT Tryz.prog 54=some 24∧szT Tryz.prog 55=some 1∧byT Tryz.prog 55=some 24∧szT Tryz.prog 56=some 1∧byT Tryz.prog 56=some 8∧szT Tryz.prog 57=some 2∧byT Tryz.prog 57=some 32∧szT Tryz.prog 58=some 2∧byT Tryz.prog 58=some 32∧szT Tryz.prog 59=some 1∧byT Tryz.prog 59=some 0∧szT Tryz.prog 60=some 1∧byT Tryz.prog 60=some 8∧szT Tryz.prog 61=some 1∧byT Tryz.prog 61=some 24∧szT Tryz.prog 63=some 1∧byT Tryz.prog 63=some 8∧szT Tryz.prog 64=some 1∧byT Tryz.prog 64=some 8∧szT Tryz.prog 65=some 1∧byT Tryz.prog 65=some 24∧szT Tryz.prog 67=some 1∧byT Tryz.prog 67=some 8∧szT Tryz.prog 69=some 6∧byT Tryz.prog 69=some 48∧szT Tryz.prog 71=some 147∧byT Tryz.prog 71=some 264∧szT Tryz.prog 72=some 1∧byT Tryz.prog 72=some 0∧szT Tryz.prog 74=some 1∧byT Tryz.prog 74=some 8∧szT Tryz.prog 75=some 1∧byT Tryz.prog 75=some 24:=by and_intros<;>kernel_rfl
theorem zy5:szT Tryz.prog 76=some 145∧byT Tryz.prog 76=some 296∧szT Tryz.prog 77=some 145∧byT Tryz.prog 77=some 296∧szT Tryz.prog 79=some 1∧byT Tryz.prog 79=some 8∧szT Tryz.prog 80=some 6∧byT Tryz.prog 80=some 48∧szT Tryz.prog 81=some 1∧byT Tryz.prog 81=some 8∧szT Tryz.prog 83=some 15∧byT Tryz.prog 83=some 264∧szT Tryz.prog 84=some 15∧byT Tryz.prog 84=some 264∧szT Tryz.prog 85=some 1∧byT Tryz.prog 85=some 0∧szT Tryz.prog 86=some 1∧byT Tryz.prog 86=some 8∧szT Tryz.prog 87=some 1∧byT Tryz.prog 87=some 8∧szT Tryz.prog 88=some 1∧byT Tryz.prog 88=some 0∧szT Tryz.prog 90=some 1∧byT Tryz.prog 90=some 8∧szT Tryz.prog 91=some 1∧byT Tryz.prog 91=some 8∧szT Tryz.prog 92=some 1∧byT Tryz.prog 92=some 8∧szT Tryz.prog 93=some 1∧byT Tryz.prog 93=some 8∧szT Tryz.prog 95=some 1∧byT Tryz.prog 95=some 8∧szT Tryz.prog 96=some 6∧byT Tryz.prog 96=some 96∧szT Tryz.prog 97=some 6∧byT Tryz.prog 97=some 96∧szT Tryz.prog 98=some 1∧byT Tryz.prog 98=some 8∧szT Tryz.prog 99=some 1∧byT Tryz.prog 99=some 24:=by and_intros<;>kernel_rfl
theorem zy4:szT Tryz.prog 100=some 1∧byT Tryz.prog 100=some 0∧szT Tryz.prog 101=some 1∧byT Tryz.prog 101=some 8∧szT Tryz.prog 102=some 3∧byT Tryz.prog 102=some 40∧szT Tryz.prog 103=some 3∧byT Tryz.prog 103=some 40∧szT Tryz.prog 104=some 5∧byT Tryz.prog 104=some 56∧szT Tryz.prog 105=some 5∧byT Tryz.prog 105=some 56∧szT Tryz.prog 107=some 2∧byT Tryz.prog 107=some 16∧szT Tryz.prog 108=some 2∧byT Tryz.prog 108=some 16∧szT Tryz.prog 110=some 1∧byT Tryz.prog 110=some 8∧szT Tryz.prog 111=some 1∧byT Tryz.prog 111=some 8∧szT Tryz.prog 112=some 6∧byT Tryz.prog 112=some 64∧szT Tryz.prog 113=some 6∧byT Tryz.prog 113=some 64∧szT Tryz.prog 114=some 1∧byT Tryz.prog 114=some 8∧szT Tryz.prog 115=some 1∧byT Tryz.prog 115=some 8∧szT Tryz.prog 116=some 1∧byT Tryz.prog 116=some 8∧szT Tryz.prog 117=some 145∧byT Tryz.prog 117=some 248∧szT Tryz.prog 118=some 145∧byT Tryz.prog 118=some 248∧szT Tryz.prog 119=some 1∧byT Tryz.prog 119=some 8∧szT Tryz.prog 120=some 1∧byT Tryz.prog 120=some 8∧szT Tryz.prog 121=some 1∧byT Tryz.prog 121=some 24:=by and_intros<;>kernel_rfl
theorem zy3:szT Tryz.prog 122=some 1∧byT Tryz.prog 122=some 0∧szT Tryz.prog 124=some 1∧byT Tryz.prog 124=some 0∧szT Tryz.prog 127=some 3∧byT Tryz.prog 127=some 56∧szT Tryz.prog 128=some 3∧byT Tryz.prog 128=some 56∧szT Tryz.prog 130=some 1∧byT Tryz.prog 130=some 8∧szT Tryz.prog 133=some 1∧byT Tryz.prog 133=some 8∧szT Tryz.prog 134=some 1∧byT Tryz.prog 134=some 8∧szT Tryz.prog 136=some 1∧byT Tryz.prog 136=some 0∧szT Tryz.prog 138=some 2∧byT Tryz.prog 138=some 2∧szT Tryz.prog 139=some 2∧byT Tryz.prog 139=some 16∧szT Tryz.prog 140=some 2∧byT Tryz.prog 140=some 16∧szT Tryz.prog 141=some 4∧byT Tryz.prog 141=some 32∧szT Tryz.prog 142=some 8∧byT Tryz.prog 142=some 64∧szT Tryz.prog 143=some 2∧byT Tryz.prog 143=some 16∧szT Tryz.prog 144=some 4∧byT Tryz.prog 144=some 32∧szT Tryz.prog 145=some 6∧byT Tryz.prog 145=some 6∧szT Tryz.prog 146=some 64∧byT Tryz.prog 146=some 512∧szT Tryz.prog 147=some 384∧byT Tryz.prog 147=some 3072∧szT Tryz.prog 149=some 408∧byT Tryz.prog 149=some 3200∧szT Tryz.prog 150=some 1∧byT Tryz.prog 150=some 8:=by and_intros<;>kernel_rfl
theorem zy2:szT Tryz.prog 152=some 4∧byT Tryz.prog 152=some 24∧szT Tryz.prog 155=some 1∧byT Tryz.prog 155=some 8∧szT Tryz.prog 156=some 1∧byT Tryz.prog 156=some 24∧szT Tryz.prog 158=some 4∧byT Tryz.prog 158=some 32∧szT Tryz.prog 159=some 4∧byT Tryz.prog 159=some 32∧szT Tryz.prog 160=some 1∧byT Tryz.prog 160=some 8∧szT Tryz.prog 161=some 1∧byT Tryz.prog 161=some 8∧szT Tryz.prog 164=some 1∧byT Tryz.prog 164=some 8∧szT Tryz.prog 174=some 1∧byT Tryz.prog 174=some 0∧szT Tryz.prog 175=some 1∧byT Tryz.prog 175=some 8∧szT Tryz.prog 176=some 1∧byT Tryz.prog 176=some 8∧szT Tryz.prog 177=some 1∧byT Tryz.prog 177=some 8∧szT Tryz.prog 178=some 1∧byT Tryz.prog 178=some 8∧szT Tryz.prog 185=some 1∧byT Tryz.prog 185=some 8∧szT Tryz.prog 188=some 1∧byT Tryz.prog 188=some 8∧szT Tryz.prog 191=some 1∧byT Tryz.prog 191=some 8∧szT Tryz.prog 192=some 1∧byT Tryz.prog 192=some 8∧szT Tryz.prog 194=some 139∧byT Tryz.prog 194=some 216∧szT Tryz.prog 195=some 1∧byT Tryz.prog 195=some 0∧szT Tryz.prog 197=some 1∧byT Tryz.prog 197=some 8:=by and_intros<;>kernel_rfl
theorem zy1:szT Tryz.prog 198=some 1∧byT Tryz.prog 198=some 8∧szT Tryz.prog 199=some 1∧byT Tryz.prog 199=some 0∧szT Tryz.prog 201=some 1∧byT Tryz.prog 201=some 4∧szT Tryz.prog 202=some 1∧byT Tryz.prog 202=some 0∧szT Tryz.prog 203=some 1∧byT Tryz.prog 203=some 8∧szT Tryz.prog 204=some 3∧byT Tryz.prog 204=some 24∧szT Tryz.prog 206=some 8∧byT Tryz.prog 206=some 64∧szT Tryz.prog 208=some 1∧byT Tryz.prog 208=some 0∧szT Tryz.prog 222=some 1∧byT Tryz.prog 222=some 0∧szT Tryz.prog 226=some 1∧byT Tryz.prog 226=some 8∧szT Tryz.prog 230=some 1∧byT Tryz.prog 230=some 0∧szT Tryz.prog 239=some 1∧byT Tryz.prog 239=some 0∧szT Tryz.prog 245=some 1∧byT Tryz.prog 245=some 8∧szT Tryz.prog 268=some 1∧byT Tryz.prog 268=some 8∧szT Tryz.prog 269=some 1∧byT Tryz.prog 269=some 8∧szT Tryz.prog 270=some 1∧byT Tryz.prog 270=some 8∧szT Tryz.prog 272=some 3∧byT Tryz.prog 272=some 40∧szT Tryz.prog 276=some 15∧byT Tryz.prog 276=some 112∧szT Tryz.prog 277=some 1∧byT Tryz.prog 277=some 8∧szT Tryz.prog 279=some 1∧byT Tryz.prog 279=some 8:=by and_intros<;>kernel_rfl
theorem zy0:szT Tryz.prog 280=some 1∧byT Tryz.prog 280=some 24∧szT Tryz.prog 287=some 1∧byT Tryz.prog 287=some 0∧szT Tryz.prog 301=some 1∧byT Tryz.prog 301=some 8∧szT Tryz.prog 306=some 1∧byT Tryz.prog 306=some 8∧szT Tryz.prog 308=some 1∧byT Tryz.prog 308=some 8∧szT Tryz.prog 313=some 2∧byT Tryz.prog 313=some 32∧szT Tryz.prog 321=some 1∧byT Tryz.prog 321=some 8∧szT Tryz.prog 329=some 1∧byT Tryz.prog 329=some 8∧szT Tryz.prog 339=some 1∧byT Tryz.prog 339=some 0∧szT Tryz.prog 343=some 8∧byT Tryz.prog 343=some 64∧szT Tryz.prog 344=some 64∧byT Tryz.prog 344=some 512∧szT Tryz.prog 347=some 64∧byT Tryz.prog 347=some 512∧szT Tryz.prog 349=some 10∧byT Tryz.prog 349=some 176∧szT Tryz.prog 351=some 4∧byT Tryz.prog 351=some 32∧szT Tryz.prog 360=some 1∧byT Tryz.prog 360=some 8∧szT Tryz.prog 362=some 1∧byT Tryz.prog 362=some 8∧szT Tryz.prog 363=some 1∧byT Tryz.prog 363=some 0∧szT Tryz.prog 369=some 1∧byT Tryz.prog 369=some 8∧szT Tryz.prog 388=some 0∧byT Tryz.prog 388=some 0:=by and_intros<;>kernel_rfl
theorem zc0:ze Tryz.prog 2=some [.int .i64 0]∧ze Tryz.prog 3=some [.int .i64 0]∧ze Tryz.prog 4=some [.bool false]∧ze Tryz.prog 5=some [.int .u8 0]∧ze Tryz.prog 6=some [.int .u8 0]∧ze Tryz.prog 7=some [.int .i64 0,.int .i64 0,.bool false,.int .u8 0]∧ze Tryz.prog 8=some [.int .i64 0,.int .i64 0,.bool false,.int .u8 0]∧ze Tryz.prog 9=some [.str []]∧ze Tryz.prog 16=some [.nilp]∧ze Tryz.prog 18=some [.nilp]∧ze Tryz.prog 19=some [.nilp]∧ze Tryz.prog 22=some [.slice [] 0 true]∧ze Tryz.prog 26=some [.int .i64 0,.int .i64 0]∧ze Tryz.prog 27=some (qA 64 (PV.int .u8 0):List PV)∧ze Tryz.prog 28=some (([.int .i64 0,.int .i64 0,.int .i64 0,.int .i64 0,.bool false,.int .i64 0,.int .i64 0]:List PV)++(qA 128 (PV.int .u8 0):List PV))∧ze Tryz.prog 29=some (([.int .i64 0,.int .i64 0,.int .i64 0,.int .i64 0,.bool false,.int .i64 0,.int .i64 0]:List PV)++(qA 128 (PV.int .u8 0):List PV))∧ze Tryz.prog 30=some [.slice [] 0 true]∧ze Tryz.prog 31=some [.slice [] 0 true]∧ze Tryz.prog 32=some [.int .i64 0,.int .i64 0,.slice [] 0 true,.slice [] 0 true,.slice [] 0 true]∧ze Tryz.prog 33=some [.int .i64 0,.int .i64 0,.slice [] 0 true,.slice [] 0 true,.slice [] 0 true]∧ze Tryz.prog 34=some [.int .i64 0,.int .i64 0,.int .i64 0,.bool false,.bool false,.bool false]∧ze Tryz.prog 35=some [.int .i64 0,.int .i64 0,.int .i64 0,.bool false,.bool false,.bool false]∧ze Tryz.prog 36=some [.slice [] 0 true]∧ze Tryz.prog 37=some [.slice [] 0 true]∧ze Tryz.prog 38=some [.int .i64 0,.int .i64 0,.int .i64 0,.bool false,.bool false,.bool false,.slice [] 0 true,.slice [] 0 true]∧ze Tryz.prog 39=some [.int .i64 0,.int .i64 0,.int .i64 0,.bool false,.bool false,.bool false,.slice [] 0 true,.slice [] 0 true]∧ze Tryz.prog 40=some [.bool false,.bool false,.int .i64 0]∧ze Tryz.prog 41=some [.bool false,.bool false,.int .i64 0]∧ze Tryz.prog 42=some (([.int .i64 0,.int .i64 0,.int .i64 0,.int .i64 0,.int .i64 0,.bool false,.int .i64 0,.int .i64 0]:List PV)++(qA 128 (PV.int .u8 0):List PV)++([.bool false,.bool false,.int .i64 0,.int .i64 0,.int .i64 0,.int .i64 0,.bool false,.bool false,.bool false,.slice [] 0 true,.slice [] 0 true,.int .i64 0]:List PV))∧ze Tryz.prog 43=some (([.int .i64 0,.int .i64 0,.int .i64 0,.int .i64 0,.int .i64 0,.bool false,.int .i64 0,.int .i64 0]:List PV)++(qA 128 (PV.int .u8 0):List PV)++([.bool false,.bool false,.int .i64 0,.int .i64 0,.int .i64 0,.int .i64 0,.bool false,.bool false,.bool false,.slice [] 0 true,.slice [] 0 true,.int .i64 0]:List PV))∧ze Tryz.prog 44=some [.int .i64 0]∧ze Tryz.prog 49=some [.slice [] 0 true]∧ze Tryz.prog 52=some [.int .i64 0,.int .i64 0,.slice [] 0 true,.slice [] 0 true,.slice [] 0 true,.int .i64 0,.int .i64 0,.int .i64 0,.bool false,.int .i64 0,.bool false]∧ze Tryz.prog 53=some [.int .i64 0,.int .i64 0,.slice [] 0 true,.slice [] 0 true,.slice [] 0 true,.int .i64 0,.int .i64 0,.int .i64 0,.bool false,.int .i64 0,.bool false]∧ze Tryz.prog 54=some [.slice [] 0 true]∧ze Tryz.prog 55=some [.slice [] 0 true]∧ze Tryz.prog 57=some [.int .i64 0,.slice [] 0 true]∧ze Tryz.prog 58=some [.int .i64 0,.slice [] 0 true]∧ze Tryz.prog 61=some [.slice [] 0 true]∧ze Tryz.prog 65=some [.slice [] 0 true]:=by and_intros<;>kernel_rfl
theorem zc40:ze Tryz.prog 69=some [.int .i64 0,.int .i64 0,.int .i64 0,.int .i64 0,.int .i64 0,.int .i64 0]∧ze Tryz.prog 71=some (([.int .i64 0,.int .i64 0,.int .i64 0,.int .i64 0,.int .i64 0,.int .i64 0,.int .i64 0,.int .i64 0,.int .i64 0,.int .i64 0,.bool false,.int .i64 0,.int .i64 0]:List PV)++(qA 128 (PV.int .u8 0):List PV)++([.int .i64 0,.int .i64 0,.int .i64 0,.bool false,.bool false,.bool false]:List PV))∧ze Tryz.prog 75=some [.slice [] 0 true]∧ze Tryz.prog 76=some (([.slice [] 0 true,.bool false,.int .i64 0,.int .i64 0,.int .i64 0,.int .i64 0,.bool false,.int .i64 0,.int .i64 0]:List PV)++(qA 128 (PV.int .u8 0):List PV)++([.int .i64 0,.int .i64 0,.bool false,.int .i64 0,.int .i64 0,.int .i64 0,.slice [] 0 true,.bool false]:List PV))∧ze Tryz.prog 77=some (([.slice [] 0 true,.bool false,.int .i64 0,.int .i64 0,.int .i64 0,.int .i64 0,.bool false,.int .i64 0,.int .i64 0]:List PV)++(qA 128 (PV.int .u8 0):List PV)++([.int .i64 0,.int .i64 0,.bool false,.int .i64 0,.int .i64 0,.int .i64 0,.slice [] 0 true,.bool false]:List PV))∧ze Tryz.prog 80=some [.int .i64 0,.int .i64 0,.int .i64 0,.int .i64 0,.int .i64 0,.int .i64 0]∧ze Tryz.prog 83=some [.int .i64 0,.int .i64 0,.slice [] 0 true,.slice [] 0 true,.slice [] 0 true,.int .i64 0,.int .i64 0,.slice [] 0 true,.slice [] 0 true,.slice [] 0 true,.int .i64 0,.int .i64 0,.slice [] 0 true,.slice [] 0 true,.slice [] 0 true]∧ze Tryz.prog 84=some [.int .i64 0,.int .i64 0,.slice [] 0 true,.slice [] 0 true,.slice [] 0 true,.int .i64 0,.int .i64 0,.slice [] 0 true,.slice [] 0 true,.slice [] 0 true,.int .i64 0,.int .i64 0,.slice [] 0 true,.slice [] 0 true,.slice [] 0 true]∧ze Tryz.prog 96=some [.int .i64 0,.int .i64 0,.slice [] 0 true,.slice [] 0 true,.slice [] 0 true,.bool false]∧ze Tryz.prog 97=some [.int .i64 0,.int .i64 0,.slice [] 0 true,.slice [] 0 true,.slice [] 0 true,.bool false]∧ze Tryz.prog 99=some [.slice [] 0 true]∧ze Tryz.prog 102=some [.slice [] 0 true,.int .i64 0,.bool false]∧ze Tryz.prog 103=some [.slice [] 0 true,.int .i64 0,.bool false]∧ze Tryz.prog 104=some [.int .i64 0,.slice [] 0 true,.int .i64 0,.int .i64 0,.int .i64 0]∧ze Tryz.prog 105=some [.int .i64 0,.slice [] 0 true,.int .i64 0,.int .i64 0,.int .i64 0]∧ze Tryz.prog 107=some [.int .i64 0,.int .i64 0]∧ze Tryz.prog 108=some [.int .i64 0,.int .i64 0]∧ze Tryz.prog 112=some [.slice [] 0 true,.int .i64 0,.int .i64 0,.bool false,.int .i64 0,.int .i64 0]∧ze Tryz.prog 113=some [.slice [] 0 true,.int .i64 0,.int .i64 0,.bool false,.int .i64 0,.int .i64 0]∧ze Tryz.prog 117=some (([.int .i64 0,.int .i64 0,.int .i64 0,.int .i64 0,.int .i64 0,.int .i64 0,.bool false,.int .i64 0,.int .i64 0]:List PV)++(qA 128 (PV.int .u8 0):List PV)++([.int .i64 0,.int .i64 0,.int .i64 0,.bool false,.bool false,.bool false,.bool false,.int .i64 0]:List PV))∧ze Tryz.prog 118=some (([.int .i64 0,.int .i64 0,.int .i64 0,.int .i64 0,.int .i64 0,.int .i64 0,.bool false,.int .i64 0,.int .i64 0]:List PV)++(qA 128 (PV.int .u8 0):List PV)++([.int .i64 0,.int .i64 0,.int .i64 0,.bool false,.bool false,.bool false,.bool false,.int .i64 0]:List PV))∧ze Tryz.prog 121=some [.slice [] 0 true]∧ze Tryz.prog 127=some [.int .i64 0,.slice [] 0 true,.slice [] 0 true]∧ze Tryz.prog 128=some [.int .i64 0,.slice [] 0 true,.slice [] 0 true]∧ze Tryz.prog 138=some [.bool false,.bool false]∧ze Tryz.prog 139=some [.int .i64 0,.int .i64 0]∧ze Tryz.prog 140=some [.int .i64 0,.int .i64 0]∧ze Tryz.prog 141=some [.int .i64 0,.int .i64 0,.int .i64 0,.int .i64 0]∧ze Tryz.prog 142=some [.int .i64 0,.int .i64 0,.int .i64 0,.int .i64 0,.int .i64 0,.int .i64 0,.int .i64 0,.int .i64 0]∧ze Tryz.prog 143=some [.int .i64 0,.int .i64 0]∧ze Tryz.prog 144=some [.int .i64 0,.int .i64 0,.int .i64 0,.int .i64 0]∧ze Tryz.prog 145=some [.bool false,.bool false,.bool false,.bool false,.bool false,.bool false]∧ze Tryz.prog 146=some (qA 64 (PV.int .i64 0):List PV)∧ze Tryz.prog 147=some (qA 384 (PV.int .i64 0):List PV)∧ze Tryz.prog 149=some (([.int .i64 0,.bool false,.bool false,.bool false,.bool false]:List PV)++(qA 13 (PV.int .i64 0):List PV)++([.bool false,.bool false,.bool false,.bool false,.bool false,.bool false]:List PV)++(qA 384 (PV.int .i64 0):List PV))∧ze Tryz.prog 152=some [.int .i64 0,.int .i64 0,.bool false,.bool false]∧ze Tryz.prog 156=some [.slice [] 0 true]∧ze Tryz.prog 158=some [.int .i64 0,.int .i64 0,.int .i64 0,.int .i64 0]∧ze Tryz.prog 159=some [.int .i64 0,.int .i64 0,.int .i64 0,.int .i64 0]∧ze Tryz.prog 191=some [.int .u64 0]:=by and_intros<;>kernel_rfl
theorem zc80:ze Tryz.prog 194=some (([.int .i64 0,.int .i64 0,.int .i64 0,.int .i64 0,.bool false,.int .i64 0,.int .i64 0]:List PV)++(qA 128 (PV.int .u8 0):List PV)++([.bool false,.int .i64 0,.bool false,.int .i64 0]:List PV))∧ze Tryz.prog 197=some [.nilp]∧ze Tryz.prog 198=some [.nilp]∧ze Tryz.prog 201=some [.int .u32 0]∧ze Tryz.prog 204=some [.int .i64 0,.int .i64 0,.int .i64 0]∧ze Tryz.prog 206=some [.int .i64 0,.int .i64 0,.int .i64 0,.int .i64 0,.int .i64 0,.int .i64 0,.int .i64 0,.int .i64 0]∧ze Tryz.prog 226=some [.nilp]∧ze Tryz.prog 245=some [.nilp]∧ze Tryz.prog 268=some [.int .u64 0]∧ze Tryz.prog 269=some [.nilp]∧ze Tryz.prog 270=some [.nilp]∧ze Tryz.prog 272=some [.slice [] 0 true,.int .i64 0,.int .i64 0]∧ze Tryz.prog 276=some [.int .i64 0,.int .i64 0,.int .i64 0,.int .i64 0,.int .i64 0,.int .i64 0,.int .i64 0,.int .i64 0,.nilp,.int .i64 0,.int .i64 0,.bool false,.bool false,.nilp,.bool false]∧ze Tryz.prog 279=some [.nilp]∧ze Tryz.prog 280=some [.slice [] 0 true]∧ze Tryz.prog 313=some [.slice [] 0 true,.int .i64 0]∧ze Tryz.prog 321=some [.nilp]∧ze Tryz.prog 329=some [.nilp]∧ze Tryz.prog 343=some [.int .i64 0,.int .i64 0,.int .i64 0,.int .i64 0,.int .i64 0,.int .i64 0,.int .i64 0,.int .i64 0]∧ze Tryz.prog 344=some (qA 64 (PV.int .i64 0):List PV)∧ze Tryz.prog 347=some (qA 64 (PV.int .i64 0):List PV)∧ze Tryz.prog 349=some [.int .i64 0,.int .i64 0,.slice [] 0 true,.slice [] 0 true,.slice [] 0 true,.int .i64 0,.int .i64 0,.slice [] 0 true,.slice [] 0 true,.slice [] 0 true]∧ze Tryz.prog 351=some [.int .i64 0,.int .i64 0,.int .i64 0,.int .i64 0]∧ze Tryz.prog 360=some [.nilp]∧ze Tryz.prog 362=some [.int .i64 0]∧ze Tryz.prog 388=some []:=by and_intros<;>kernel_rfl
theorem mix:Tryz.prog.follows .mixedOrders=true:=by kernel_rfl
attribute [go_sem] sz0 sz40 sz80 zy5 zy4 zy3 zy2 zy1 zy0 zc0 zc40 zc80 Tryz.underlying0 Tryz.underlying1 Tryz.underlying2 Tryz.underlying3 Tryz.underlying4 Tryz.underlying5 Tryz.underlying6 Tryz.underlying7 Tryz.underlying8 Tryz.underlying9 Tryz.underlying16 Tryz.underlying18 Tryz.underlying19 Tryz.underlying20 Tryz.underlying22 Tryz.underlying23 Tryz.underlying24 Tryz.underlying26 Tryz.underlying27 Tryz.underlying28 Tryz.underlying29 Tryz.underlying30 Tryz.underlying31 Tryz.underlying32 Tryz.underlying33 Tryz.underlying34 Tryz.underlying35 Tryz.underlying36
attribute [go_sem] Tryz.underlying37 Tryz.underlying38 Tryz.underlying39 Tryz.underlying40 Tryz.underlying41 Tryz.underlying42 Tryz.underlying43 Tryz.underlying44 Tryz.underlying45 Tryz.underlying47 Tryz.underlying48 Tryz.underlying49 Tryz.underlying50 Tryz.underlying52 Tryz.underlying53 Tryz.underlying54 Tryz.underlying55 Tryz.underlying56 Tryz.underlying57 Tryz.underlying58 Tryz.underlying59 Tryz.underlying60 Tryz.underlying61 Tryz.underlying63 Tryz.underlying64 Tryz.underlying65 Tryz.underlying67 Tryz.underlying69 Tryz.underlying71 Tryz.underlying72 Tryz.underlying74 Tryz.underlying75 Tryz.underlying76 Tryz.underlying77 Tryz.underlying79 Tryz.underlying80 Tryz.underlying81 Tryz.underlying83 Tryz.underlying84 Tryz.underlying85
attribute [go_sem] Tryz.underlying86 Tryz.underlying87 Tryz.underlying88 Tryz.underlying90 Tryz.underlying91 Tryz.underlying92 Tryz.underlying93 Tryz.underlying95 Tryz.underlying96 Tryz.underlying97 Tryz.underlying98 Tryz.underlying99 Tryz.underlying100 Tryz.underlying101 Tryz.underlying102 Tryz.underlying103 Tryz.underlying104 Tryz.underlying105 Tryz.underlying107 Tryz.underlying108 Tryz.underlying110 Tryz.underlying111 Tryz.underlying112 Tryz.underlying113 Tryz.underlying114 Tryz.underlying115 Tryz.underlying116 Tryz.underlying117 Tryz.underlying118 Tryz.underlying119 Tryz.underlying120 Tryz.underlying121 Tryz.underlying122 Tryz.underlying124 Tryz.underlying127 Tryz.underlying128 Tryz.underlying130 Tryz.underlying133 Tryz.underlying134 Tryz.underlying136
attribute [go_sem] Tryz.underlying138 Tryz.underlying139 Tryz.underlying140 Tryz.underlying141 Tryz.underlying142 Tryz.underlying143 Tryz.underlying144 Tryz.underlying145 Tryz.underlying146 Tryz.underlying147 Tryz.underlying149 Tryz.underlying150 Tryz.underlying152 Tryz.underlying155 Tryz.underlying156 Tryz.underlying158 Tryz.underlying159 Tryz.underlying160 Tryz.underlying161 Tryz.underlying164 Tryz.underlying174 Tryz.underlying175 Tryz.underlying176 Tryz.underlying177 Tryz.underlying178 Tryz.underlying185 Tryz.underlying188 Tryz.underlying191 Tryz.underlying192 Tryz.underlying194 Tryz.underlying195 Tryz.underlying197 Tryz.underlying198 Tryz.underlying199 Tryz.underlying201 Tryz.underlying202 Tryz.underlying203 Tryz.underlying204 Tryz.underlying206 Tryz.underlying208
attribute [go_sem] Tryz.underlying222 Tryz.underlying226 Tryz.underlying230 Tryz.underlying239 Tryz.underlying245 Tryz.underlying268 Tryz.underlying269 Tryz.underlying270 Tryz.underlying272 Tryz.underlying276 Tryz.underlying277 Tryz.underlying279 Tryz.underlying280 Tryz.underlying287 Tryz.underlying301 Tryz.underlying306 Tryz.underlying308 Tryz.underlying313 Tryz.underlying321 Tryz.underlying329 Tryz.underlying339 Tryz.underlying343 Tryz.underlying344 Tryz.underlying347 Tryz.underlying349 Tryz.underlying351 Tryz.underlying360 Tryz.underlying362 Tryz.underlying363 Tryz.underlying369 Tryz.underlying388 Tryz.eqGuardType27 Tryz.eqGuardType138 Tryz.eqGuardType141 Tryz.eqGuardType142 Tryz.eqGuardType143 Tryz.eqGuardType144 Tryz.eqGuardType145 Tryz.eqGuardType146 Tryz.eqGuardType147
attribute [go_sem] Tryz.eqGuardType204 Tryz.eqGuardType343 Tryz.eqGuardType344 Tryz.eqGuardType347 Tryz.eqGuardType349
end Go.Proofs.YtpjlfoficnpfoaaGreatDoor.Ty
namespace Go.Proofs.YtpjlfoficnpfoaaGreatDoor.Sc
set_option linter.all false
open Pm Ty Go.RowKit
def bs(p:List UInt8):List PV:=p.map fun b=>.int .u8 (b.toNat:Int)
theorem zd(p:List UInt8):(bs p).length=p.length:=by simp[bs]
def byt(p:List UInt8)(k:Nat):Int:=((p.getD k 0).toNat:Int)
theorem zaf(p:List UInt8)(k:Nat):0≤byt p k∧byt p k≤255:=by unfold byt;have:=(p.getD k 0).toNat_lt;omega
theorem zaX(p:List UInt8)(k:Nat)(h:k<p.length):(bs p)[k]? =some (.int .u8 (byt p k)):=by simp[bs,byt,h]
theorem zF(p q:List UInt8):bs (p++q)=bs p++bs q:=by simp[bs]
theorem zdT(p:List UInt8):∀ x∈bs p,Still x:=fun x hx=>by obtain⟨b,_,rfl⟩:=qI.1 hx;exact .int _ _
theorem zgU(p:List UInt8)(k:Nat)(h:k<p.length):p.take (k+1)=p.take k++[p.getD k 0]:=by rw[qH h];simp[h]
theorem zyq(b:UInt8):bs [b]=[.int .u8 (b.toNat:Int)]:=rfl
theorem ztf(n:Nat):bs (qA n 0)=qA n (.int .u8 0):=by simp[bs]
theorem zn(n:Nat)(p:List UInt8):∀ x∈bs p,Scoped n x:=fun x hx=>by obtain⟨b,_,rfl⟩:=qI.1 hx;exact .int _ _
theorem zj{n k:Nat}{xs:List PV}{f:Bool}(h:∀ x∈xs,Scoped n x):Scoped n (.slice xs k f):=.slice fun j x hx=>h x (qR hx)
theorem zw{n:Nat}{xs:List PV}(h:∀ x∈xs,Scoped n x):Scoped n (.agg xs):=.agg fun j x hx=>h x (qR hx)
theorem _root_.Go.Proofs.YtpjlfoficnpfoaaGreatDoor.Pm.Fz.id'{n:Nat}{H:za}{x y:PV}(e:x=y)(h:Scoped n y):Fz n H x y:=e▸.id (e▸h)
theorem zte(b:List UInt8)(i:Nat)(v:UInt8):(bs b).set i (.int .u8 (v.toNat:Int))=bs (b.set i v):=by simp[bs,List.map_set]
theorem zcF(p:List UInt8)(k:Nat):(bs p).drop k=bs (p.drop k):=by simp[bs]
theorem zbS(p:List UInt8)(k:Nat):(bs p).take k=bs (p.take k):=by simp[bs]
theorem znX(k:IntKind):∀(p q:List UInt8),p.length=q.length→zdt (.int k) (bs p) (bs q)=some (p==q)
 | [],[],_=>rfl
 | a::p,b::q,h=>by
  have ih:=znX k p q (by simpa using h);have e:((a.toNat:Int)==(b.toNat:Int))=(a==b):=by rw[qB];simp only[beq_iff_eq];exact⟨fun h=>UInt8.toNat_inj.1 om,fun h=>by rw[h]⟩
  show(match zce (.int k) (.int .u8 (a.toNat:Int)) (.int .u8 (b.toNat:Int))with|some c=>(zdt (.int k) (bs p) (bs q)).map fun r=>c&&r|none=>none)=_;rw[ih];simp only[zce,if_true,Option.map_some,e];rfl
 | [],_::_,h=>by simp at h
 | _::_,[],h=>by simp at h
theorem zeP(a b:Int): -(a.natAbs:Int)≤a.tdiv b∧a.tdiv b≤(a.natAbs:Int):=by
 have h:(a.tdiv b).natAbs≤a.natAbs:=by rw[Int.natAbs_tdiv];exact Nat.div_le_self _ _
 omega
theorem zl1(a b:Int)(h: -9223372036854775807≤a∧a≤9223372036854775807):IntKind.i64.wrap (a.tdiv b)=a.tdiv b:=by have:=zeP a b;exact w64 _ om
theorem zqe(x y:Nat):(x:Int).tmod (y:Int)=((x%y:Nat):Int):=by rw[qO om];rfl
theorem zv2(a b:Nat):(a:Int).tdiv (b:Int)=((a / b:Nat):Int):=rfl
theorem zu(a b:Int)(h:0≤a):a.tdiv b=a / b:=Int.tdiv_eq_ediv_of_nonneg h
theorem zY(a b:Int)(h:0≤a):a.tmod b=a%b:=qO h
theorem ztD(n:Int)(h:0≤n∧n≤18446744073709551615):IntKind.u64.wrap n=n:=by simp only[IntKind.wrap,IntKind.bits,IntKind.signed,Bool.false_and,Bool.false_eq_true,if_false];omega
theorem zyM(n:Int)(h: -18446744073709551616≤n∧n<0):IntKind.u64.wrap n=n+18446744073709551616:=by simp only[IntKind.wrap,IntKind.bits,IntKind.signed,Bool.false_and,Bool.false_eq_true,if_false];omega
def is(l:List Int):List PV:=l.map fun n=>.int .i64 n
theorem zr(l:List Int):(is l).length=l.length:=by simp[is]
def zg(l:List Int)(k:Nat):Int:=l.getD k 0
theorem zbJ(l:List Int)(i:Nat)(h:i<l.length):(is l)[i]? =some (.int .i64 (zg l i)):=by simp[is,zg,h]
theorem ziJ(p q:List Int):is (p++q)=is p++is q:=by simp[is]
theorem zaz(n:Nat)(p:List Int):∀ x∈is p,Scoped n x:=fun x hx=>by obtain⟨b,_,rfl⟩:=qI.1 hx;exact .int _ _
theorem zb5(b:List Int)(i:Nat)(v:Int):(is b).set i (.int .i64 v)=is (b.set i v):=by simp[is,List.map_set]
theorem ze9(p:List Int)(k:Nat):(is p).drop k=is (p.drop k):=by simp[is]
theorem zd3(p:List Int)(k:Nat):(is p).take k=is (p.take k):=by simp[is]
theorem zgu(k:IntKind):∀(p q:List Int),p.length=q.length→zdt (.int k) (is p) (is q)=some (p==q)
 | [],[],_=>rfl
 | a::p,b::q,h=>by
  have ih:=zgu k p q (by simpa using h);show(match zce (.int k) (.int .i64 a) (.int .i64 b)with|some c=>(zdt (.int k) (is p) (is q)).map fun r=>c&&r|none=>none)=_;rw[ih];simp only[zce,if_true,Option.map_some];rfl
 | [],_::_,h=>by simp at h
 | _::_,[],h=>by simp at h
def fs(l:List Bool):List PV:=l.map fun b=>.bool b
theorem zsB(l:List Bool):(fs l).length=l.length:=by simp[fs]
def zat(l:List Bool)(k:Nat):Bool:=l.getD k false
theorem zj0(l:List Bool)(i:Nat)(h:i<l.length):(fs l)[i]? =some (.bool (zat l i)):=by simp[fs,zat,h]
theorem ziN(n:Nat)(p:List Bool):∀ x∈fs p,Scoped n x:=fun x hx=>by obtain⟨b,_,rfl⟩:=qI.1 hx;exact .bool _
theorem zwu(a b:Nat):(a:Int).fdiv (b:Int)=((a / b:Nat):Int):=by rw[Int.fdiv_eq_ediv_of_nonneg _ om];rfl
theorem zhe(k':IntKind)(V s:Nat)(h:s≤32):zaI .shr .u32 (V:Int) k' (s:Int)=some (.int .u32 ((V / 2^s:Nat):Int)):=by simp only[zaI,IntKind.bits];rw[if_neg om,show min (s:Int).toNat 32=s from om,show((2:Int)^s)=((2^s:Nat):Int) by simp,zwu]
theorem znQ(k':IntKind)(V s:Nat)(h:s≤8):zaI .shr .u8 (V:Int) k' (s:Int)=some (.int .u8 ((V / 2^s:Nat):Int)):=by simp only[zaI,IntKind.bits];rw[if_neg om,show min (s:Int).toNat 8=s from om,show((2:Int)^s)=((2^s:Nat):Int) by simp,zwu]
theorem zpt(V:Nat):zaI .and .u32 (V:Int) .u32 1=some (.int .u32 ((V%2:Nat):Int)):=by
 have h0:(BitVec.ofInt 32 (V:Int)&&& BitVec.ofInt 32 1).toNat=V%2:=by rw[BitVec.ofInt_natCast,BitVec.toNat_and,BitVec.toNat_ofNat,show(BitVec.ofInt 32 1).toNat=1 by decide,Nat.and_one_is_mod];omega
 have:(BitVec.ofInt IntKind.u32.bits (V:Int)&&& BitVec.ofInt IntKind.u32.bits 1).toNat=V%2:=h0;simp only[zaI,this,if_true];rw[w32 _ om]
theorem zrN(V:Nat):zaI .and .u8 (V:Int) .u8 1=some (.int .u8 ((V%2:Nat):Int)):=by
 have h0:(BitVec.ofInt 8 (V:Int)&&& BitVec.ofInt 8 1).toNat=V%2:=by rw[BitVec.ofInt_natCast,BitVec.toNat_and,BitVec.toNat_ofNat,show(BitVec.ofInt 8 1).toNat=1 by decide,Nat.and_one_is_mod];omega
 have:(BitVec.ofInt IntKind.u8.bits (V:Int)&&& BitVec.ofInt IntKind.u8.bits 1).toNat=V%2:=h0;simp only[zaI,this,if_true];rw[w8 _ om]
theorem zur(k':IntKind)(V s:Nat)(h:V * 2^s<256)(hs:s≤8):zaI .shl .u8 (V:Int) k' (s:Int)=some (.int .u8 ((V * 2^s:Nat):Int)):=by simp only[zaI,IntKind.bits];rw[if_neg om,show min (s:Int).toNat 8=s from om,show(V:Int) * (2:Int)^s=((V * 2^s:Nat):Int) by simp,w8 _ om]
theorem zxs:∀ a<256,∀ s<8,a%2^(s+1)=0→(BitVec.ofNat 8 a|||BitVec.ofNat 8 (2^s)).toNat=a+2^s:=by decide+kernel
theorem zro(V s c:Nat)(h:V<256)(hs:s<8)(hz:V%2^(s+1)=0)(hc:c<2):zaI .or .u8 (V:Int) .u8 ((c * 2^s:Nat):Int)=some (.int .u8 ((V+c * 2^s:Nat):Int)):=by
 have key0:(BitVec.ofInt 8 (V:Int)|||BitVec.ofInt 8 ((c * 2^s:Nat):Int)).toNat=V+c * 2^s:=by
  rw[BitVec.ofInt_natCast,BitVec.ofInt_natCast];rcases Nat.lt_or_ge c 1 with h0|h0
  ·have:c=0:=om;subst this;rw[Nat.zero_mul,BitVec.toNat_or,BitVec.toNat_ofNat,BitVec.toNat_ofNat];simp;omega
  ·have:c=1:=om;subst this;rw[Nat.one_mul];exact zxs V h s hs hz
 have key:(BitVec.ofInt IntKind.u8.bits (V:Int)|||BitVec.ofInt IntKind.u8.bits ((c * 2^s:Nat):Int)).toNat=V+c * 2^s:=key0;have hlt:V+c * 2^s<256:=by have:=BitVec.isLt (BitVec.ofInt IntKind.u8.bits (V:Int)|||BitVec.ofInt IntKind.u8.bits ((c * 2^s:Nat):Int));rw[key]at this;exact this
 simp only[zaI,key,if_true];rw[w8 _ om]
def mbs(n most:Int):Bool:=decide (16≤n)&&decide (n≤most)&&(n.tmod 16==0)
theorem zhB(n most:Int)(H:za):CallOk Tryz.prog 197 [.int .i64 n,.int .i64 most] H (.bool (mbs n most)) H:=by
 refine CallOk.go Tryz.func197 Tryz.ntmps197 Tryz.results197 ?_;refine PW.e ?_;(repeat refine PW.seq ?_);refine PW.rg rfl fun K hK=> ?_;simp(disch:=omega) only[go_sem,↓reduceIte,reduceCtorEq];(repeat'((first|refine zh ?_ ?_|refine zk ?_ ?_|refine zU ?_ ?_|refine VOh_cond ?_ ?_|refine zT ?_ ?_|refine And.intro ?_ ?_)<;>intro h<;>(try simp only[nqb]at h)<;>simp(disch:=omega) only[go_sem,↓reduceIte,reduceCtorEq,h]));all_goals(refine hK _ _ ?_;clear hK K)
 all_goals(refine PW.ret ⟨_,rfl,.inl ⟨?_,rfl⟩⟩;simp_all[mbs,slot,qD];try omega)
theorem zxY(x y:Nat)(H:za):CallOk Tryz.prog 280 [.int .u64 (x:Int),.int .u64 (y:Int)] H (.int .u64 (Nat.gcd x y:Int)) H:=by
 generalize hr:Nat.gcd x y=r;refine CallOk.go Tryz.func280 Tryz.ntmps280 Tryz.results280 ?_;refine PW.e ?_;refine PW.l ?_;refine PL.at [0,1] (?_:PL _ _ _ [(0,.int .u64 (x:Int)),(1,.int .u64 (y:Int))] H _) rfl rfl;induction hm:y using qK generalizing x y with
 | _ n ih=>
  subst hm;refine PL.round ?_;refine PW.e ?_;refine PW.c (fun h=> ?_) (fun h=> ?_)
  ·have hy:y≠0:=by intro e;subst e;simp at h
   refine PW.skip ?_;refine PW.b ?_;(repeat refine PW.seq ?_);refine PW.draw mix kr fun K hK=> ?_;simp(disch:=omega) only[go_sem,↓reduceIte,reduceCtorEq,zqe];refine hK _ _ ?_;clear hK K;exact PL.at [0,1] (ih (x%y) (qM _ om) y (x%y) (by rw[←hr,Nat.gcd_comm x y,Nat.gcd_rec y x,Nat.gcd_comm]) rfl) rfl rfl
  ·have hy:y=0:=by simpa using h
   subst hy;refine PW.exit ?_;refine PW.e ?_;exact PW.ret ⟨_,rfl,.inl ⟨by rw[←hr,Nat.gcd_zero_right];rfl,rfl⟩⟩
theorem zuX(n:Int)(H:za)(hn: -9223372036854775808≤n∧n≤9223372036854775807):CallOk Tryz.prog 281 [.int .i64 n] H (.int .u64 (n.natAbs:Int)) H:=by
 refine CallOk.go Tryz.func281 Tryz.ntmps281 Tryz.results281 ?_;refine PW.e ?_;refine PW.e ?_;refine PW.c (fun h=> ?_) (fun h=> ?_)
 ·have h1:=of_decide_eq_true h;refine PW.f (fun K k=>by simp(disch:=omega) only[go_sem,↓reduceIte,reduceCtorEq,zyM];exact k) ?_;refine PW.ret ⟨_,rfl,.inl ⟨?_,rfl⟩⟩;have e:(n.natAbs:Int)=0 - (n+18446744073709551616)+18446744073709551616:=om;rw[e];rfl
 ·have h1:=of_decide_eq_false h;refine PW.skip ?_;refine PW.f (fun K k=>by simp(disch:=omega) only[go_sem,↓reduceIte,reduceCtorEq,ztD];exact k) ?_;refine PW.ret ⟨_,rfl,.inl ⟨?_,rfl⟩⟩;have e:(n.natAbs:Int)=n:=om;rw[e];rfl
def zhc(num den:Int):Bool:=decide (1≤den)&&decide (-9223372036854775808<num)&&(Nat.gcd num.natAbs den.natAbs==1)
theorem zhb(num den:Int)(H:za)(hn: -9223372036854775808≤num∧num≤9223372036854775807)(hd: -9223372036854775808≤den∧den≤9223372036854775807):
  CallOk Tryz.prog 198 [.agg [.int .i64 num,.int .i64 den]] H (.bool (zhc num den)) H:=by
 generalize hr:zhc num den=r;refine CallOk.go Tryz.func198 Tryz.ntmps198 Tryz.results198 ?_;refine PW.e ?_;(repeat refine PW.seq ?_);refine PW.draw mix kr fun K hK=> ?_;simp(disch:=omega) only[go_sem,↓reduceIte,reduceCtorEq,ztD];(repeat'((first|refine zh ?_ ?_|refine zk ?_ ?_|refine zU ?_ ?_|refine VOh_cond ?_ ?_|refine zT ?_ ?_|refine And.intro ?_ ?_)<;>intro h<;>(try simp only[nqb]at h)<;>simp(disch:=omega) only[go_sem,↓reduceIte,reduceCtorEq,ztD,h]))
 ·rename_i h1;have e:den=((den.natAbs:Nat):Int):=om;have hg:=zxY num.natAbs den.natAbs (H++[⟨26,0,[.int .i64 num,.int .i64 den]⟩]);rw[←e]at hg;refine VCy.call (zuX _ _ hn) rfl ?_;simp(disch:=omega) only[go_sem,↓reduceIte,reduceCtorEq,ztD];refine VCy.call (hg) rfl ?_;simp(disch:=omega) only[go_sem,↓reduceIte,reduceCtorEq];refine hK _ _ ?_;clear hK K;refine PW.ret ⟨_,rfl,Fin.base (.id' ?_ (.bool _))⟩;rw[←hr];simp[zhc,slot,qD,h,h1];rw[qB];simp;omega
 all_goals(refine hK _ _ ?_;clear hK K)
 all_goals(refine PW.ret ⟨_,rfl,Fin.base (.id' ?_ (.bool _))⟩;rw[←hr];simp_all[zhc,slot,qD];try omega)
structure Sq where
 w:Int
 h:Int
 num:Int
 den:Int
 il:Bool
 br:Int
 bf:Int
 ia:List UInt8
 ie:List UInt8
def sqc(s:Sq):List PV:=.int .i64 s.w:: .int .i64 s.h:: .int .i64 s.num:: .int .i64 s.den:: .bool s.il:: .int .i64 s.br:: .int .i64 s.bf::(bs s.ia++bs s.ie)
def zih(n:Int):Prop:= -9223372036854775808≤n∧n≤9223372036854775807
structure SqOk(s:Sq):Prop where
 w: -9223372036854775808≤s.w∧s.w≤9223372036854775807
 h: -9223372036854775808≤s.h∧s.h≤9223372036854775807
 num: -9223372036854775808≤s.num∧s.num≤9223372036854775807
 den: -9223372036854775808≤s.den∧s.den≤9223372036854775807
 br: -9223372036854775808≤s.br∧s.br≤9223372036854775807
 bf: -9223372036854775808≤s.bf∧s.bf≤9223372036854775807
 ia:s.ia.length=64
 ie:s.ie.length=64
theorem zbm(n:Nat)(s:Sq):∀ x∈sqc s,Scoped n x:=fun x hx=>by simp only[sqc,List.mem_cons,List.mem_append]at hx;rcases hx with rfl|rfl|rfl|rfl|rfl|rfl|rfl|hx|hx;all_goals first|exact .int _ _|exact .bool _|exact zn n _ x hx
theorem zir(p q:List UInt8)(h:p.length=64):(bs p++bs q).take 64=bs p:=by rw[List.take_append_of_le_length (by rw[zd];omega),qF (by rw[zd];omega)]
theorem ziq(p q:List UInt8)(h:p.length=64):(bs p++bs q).drop 64=bs q:=by rw[List.drop_append_of_le_length (by rw[zd];omega),qP (by rw[zd];omega),List.nil_append]
theorem zgY(q:List UInt8)(h:q.length=64):(bs q).take 64=bs q:=qF (by rw[zd];omega)
theorem zmh(p q:List UInt8)(h:p.length=64)(h':q.length=64):(bs p++bs q).take 128=bs p++bs q:=qF (by rw[qE,zd,zd];omega)
def zcr(m:List UInt8):Bool:=m.all fun b=>decide (8≤b.toNat)
theorem zuN(m:List UInt8)(k:Nat)(hk:k≤m.length):(m.drop k).all (fun b=>decide (8≤b.toNat))=if k<m.length then decide (8≤byt m k)&&(m.drop (k+1)).all (fun b=>decide (8≤b.toNat))else true:=by
 split
 ·rename_i h;rw[List.drop_eq_getElem_cons h,List.all_cons];congr 1;simp[byt,h];omega
 ·rw[qP om];rfl
theorem zlt(m:List UInt8)(H:za)(hl:m.length=64):CallOk Tryz.prog 127 [.agg (bs m)] H (.bool (zcr m)) H:=by
 refine CallOk.go Tryz.func127 Tryz.ntmps127 Tryz.results127 ?_;have hall:(bs m).all PV.cell=true:=by simp[bs,PV.cell]
 refine PW.g hall ?_;refine PW.f (fun K k=>by simp(disch:=omega) only[go_sem,↓reduceIte,reduceCtorEq,zd,zgY];exact k) ?_;refine PW.l ?_;suffices hloop:∀(k:Nat),k≤64→zcr m=(m.drop k).all (fun b=>decide (8≤b.toNat))→PL Tryz.prog _ _ [(5,.agg (bs m)),(6,.int .i64 (k:Int))] (H++[⟨27,0,bs m⟩]) _ by exact PL.at [5,6] (hloop 0 om (by simp[zcr])) rfl rfl
 intro k hk heq;induction hm:64 - k using qK generalizing k with
 | _ n ih=>
  rw[zuN m k om]at heq;refine PL.round ?_;refine PW.e ?_;refine PW.c (fun h=> ?_) (fun h=> ?_)
  ·have h4:k<64:=ot h;rw[if_pos om]at heq;refine PW.skip ?_;refine PW.b ?_;refine PW.f (fun K k=>by simp(disch:=omega) only[go_sem,↓reduceIte,reduceCtorEq,zaX];exact k) ?_;refine PW.e ?_;refine PW.c (fun h=> ?_) (fun h=> ?_)
   ·have h5:=of_decide_eq_true h;refine PW.e ?_;refine PW.ret ⟨_,rfl,Fin.base (.id' ?_ (.bool _))⟩;rw[heq];simp[slot,qD];omega
   ·have h5:=of_decide_eq_false h;refine PW.skip ?_;refine PW.e ?_;refine PL.at [5,6] (ih (64 - (k+1)) om (k+1) om ?_ rfl) rfl rfl;rw[heq];simp;omega
  ·have h4:¬ k<64:=ofF h;rw[if_neg om]at heq;refine PW.exit ?_;refine PW.e ?_;refine PW.ret ⟨_,rfl,Fin.base (.id' ?_ (.bool _))⟩;rw[heq];rfl
def vsz(s:Sq):Bool:=mbs s.w 64&&mbs s.h 64&&(!s.il||(s.h.tmod 32==0))
def vrt(s:Sq):Bool:=zhc s.num s.den&&decide (1≤s.num)&&decide (s.num≤1048576)&&decide (s.den≤65536)
def vbr(s:Sq):Bool:=decide (1≤s.br)&&decide (s.br≤16777216)&&decide (1≤s.bf)&&decide (s.bf≤8388608)
def vbu(s:Sq):Bool:=decide (3 * s.den * s.br+32 * s.num≤2 * s.num * s.bf)
def zcz(s:Sq):Bool:=vsz s&&(vrt s&&(vbr s&&(vbu s&&(zcr s.ia&&zcr s.ie))))
theorem ziE{num den:Int}(h:zhc num den=true):1≤den:=by simp[zhc]at h;exact h.1.1
theorem znR{a b:Int}{A B:Int}(ha:0≤a)(hA:a≤A)(hb:0≤b)(hB:b≤B):0≤a * b∧a * b≤A * B:=⟨Int.mul_nonneg ha hb,Int.mul_le_mul hA hB hb (Int.le_trans ha hA)⟩
theorem zgn(s:Sq)(H:za)(hs:SqOk s):CallOk Tryz.prog 120 [.agg (sqc s)] H (.bool (zcz s)) H:=by
 obtain⟨hw,hh,hnum,hden,hbr,hbf,hia,hie⟩:=hs;have hall:(bs s.ia++bs s.ie).all PV.cell=true:=by simp[bs,PV.cell]
 refine CallOk.go Tryz.func120 Tryz.ntmps120 Tryz.results120 ?_;refine PW.f (fun K k=>by simp(disch:=omega) only[go_sem,↓reduceIte,reduceCtorEq,sqc,hall];exact k) ?_;refine PW.seq (PW.seq (PW.rgv [1] 22 (.bool (!vsz s)) rfl ?_ ?_))
 ·simp(disch:=omega) only[go_sem,↓reduceIte,reduceCtorEq];(repeat'(first|((first|refine zh ?_ ?_|refine zk ?_ ?_|refine zU ?_ ?_|refine VOh_cond ?_ ?_|refine zT ?_ ?_|refine And.intro ?_ ?_)<;>intro h<;>(try simp only[nqb]at h)<;>simp(disch:=omega) only[go_sem,↓reduceIte,reduceCtorEq,h])|((first|refine VCx.call (zhB _ _ _) rfl ?_|refine VCy.call (zhB _ _ _) rfl ?_|refine VCz.call (fun _=>zhB _ _ _) rfl ?_|refine VCk.call (fun _ _=>zhB _ _ _) rfl ?_|refine VCj.now (zhB _ _ _) rfl ?_);simp(disch:=omega) only[go_sem,↓reduceIte,reduceCtorEq])));all_goals(simp_all[vsz,slot,qD]<;>first|rfl|omega|(rw[qB];simp;done)|(rw[qB];simp;omega))
 refine PW.c (fun h=> ?_) (fun h=> ?_)
 ·have h1:vsz s=false:=by simpa using h
  refine PW.e ?_;exact PW.ret ⟨_,rfl,Fin.base (.id' (by simp[zcz,h1,slot,qD]) (.bool _))⟩
 have h1:vsz s=true:=by simpa using h
 refine PW.skip (PW.seq (PW.seq (PW.rgv [1] 44 (.bool (!vrt s)) rfl ?_ ?_)))
 ·simp(disch:=omega) only[go_sem,↓reduceIte,reduceCtorEq];(repeat'(first|((first|refine zh ?_ ?_|refine zk ?_ ?_|refine zU ?_ ?_|refine VOh_cond ?_ ?_|refine zT ?_ ?_|refine And.intro ?_ ?_)<;>intro h<;>(try simp only[nqb]at h)<;>simp(disch:=omega) only[go_sem,↓reduceIte,reduceCtorEq,h])|((first|refine VCx.call (zhb _ _ _ hnum hden) rfl ?_|refine VCy.call (zhb _ _ _ hnum hden) rfl ?_|refine VCz.call (fun _=>zhb _ _ _ hnum hden) rfl ?_|refine VCk.call (fun _ _=>zhb _ _ _ hnum hden) rfl ?_|refine VCj.now (zhb _ _ _ hnum hden) rfl ?_);simp(disch:=omega) only[go_sem,↓reduceIte,reduceCtorEq])));all_goals(simp_all[vrt,slot,qD]<;>first|rfl|omega|(rw[qB];simp;done)|(rw[qB];simp;omega))
 refine PW.c (fun h=> ?_) (fun h=> ?_)
 ·have h2:vrt s=false:=by simpa using h
  refine PW.e ?_;exact PW.ret ⟨_,rfl,Fin.base (.id' (by simp[zcz,h1,h2,slot,qD]) (.bool _))⟩
 have h2:vrt s=true:=by simpa using h
 refine PW.skip (PW.seq (PW.seq (PW.rgv [1] 62 (.bool (!vbr s)) rfl ?_ ?_)))
 ·simp(disch:=omega) only[go_sem,↓reduceIte,reduceCtorEq];(repeat'((first|refine zh ?_ ?_|refine zk ?_ ?_|refine zU ?_ ?_|refine VOh_cond ?_ ?_|refine zT ?_ ?_|refine And.intro ?_ ?_)<;>intro h<;>(try simp only[nqb]at h)<;>simp(disch:=omega) only[go_sem,↓reduceIte,reduceCtorEq,h]));all_goals(simp_all[vbr,slot,qD]<;>first|rfl|omega|(rw[qB];simp;done)|(rw[qB];simp;omega))
 refine PW.c (fun h=> ?_) (fun h=> ?_)
 ·have h3:vbr s=false:=by simpa using h
  refine PW.e ?_;exact PW.ret ⟨_,rfl,Fin.base (.id' (by simp[zcz,h1,h2,h3,slot,qD]) (.bool _))⟩
 have h3:vbr s=true:=by simpa using h
 have h2':=h2;have h3':=h3;simp only[vrt,vbr,Bool.and_eq_true,decide_eq_true_eq]at h2' h3';have hdp:=ziE h2'.1.1.1;have hb1:=znR (a:=2 * s.num) (b:=s.bf) (A:=2097152) (B:=8388608) om om om om;have hb2:=znR (a:=3 * s.den) (b:=s.br) (A:=196608) (B:=16777216) om om om om;refine PW.skip ?_;refine PW.e ?_;refine PW.c (fun h=> ?_) (fun h=> ?_)
 ·have h4:vbu s=false:=by have:=of_decide_eq_true h;simp[vbu];omega
  refine PW.e ?_;exact PW.ret ⟨_,rfl,Fin.base (.id' (by simp[zcz,h1,h2,h3,h4,slot,qD]) (.bool _))⟩
 have h4:vbu s=true:=by have:=of_decide_eq_false h;simp[vbu];omega
 refine PW.skip ?_;(repeat refine PW.seq ?_);refine PW.rg rfl fun K hK=> ?_;simp(disch:=omega) only[go_sem,↓reduceIte,reduceCtorEq,zir,ziq,zgY,qE,zd];(repeat'(first|((first|refine zh ?_ ?_|refine And.intro ?_ ?_)<;>intro h<;>(try simp only[nqb]at h)<;>simp(disch:=omega) only[go_sem,↓reduceIte,reduceCtorEq,zir,ziq,zgY,qE,zd,h])|((first|refine VCx.call (zlt _ _ hia) rfl ?_|refine VCx.call (zlt _ _ hie) rfl ?_);simp(disch:=omega) only[go_sem,↓reduceIte,reduceCtorEq,zir,ziq,zgY,qE,zd])));all_goals(refine hK _ _ ?_;clear hK K)
 all_goals exact PW.ret ⟨_,rfl,Fin.base (.id' (by simp_all[zcz,slot,qD]) (.bool _))⟩
structure Pi where
 ty:Int
 st:Int
 od:Int
 tf:Bool
 rp:Bool
 al:Bool
def pic(h:Pi):List PV:=[.int .i64 h.ty,.int .i64 h.st,.int .i64 h.od,.bool h.tf,.bool h.rp,.bool h.al]
def zkf(h:Pi):Bool:=decide (0≤h.od)&&decide (h.od≤1023)&&decide (1≤h.ty)&&decide (h.ty≤3)&&decide (1≤h.st)&&decide (h.st≤3)
theorem zke(h:Pi)(H:za):CallOk Tryz.prog 121 [.agg (pic h)] H (.bool (zkf h)) H:=by obtain⟨ty,st,od,tf,rp,al⟩:=h;refine CallOk.body (F0:=[(0,.agg (pic ⟨ty,st,od,tf,rp,al⟩))]) Tryz.func121 rfl Tryz.ntmps121 Tryz.results121 rfl kr rfl ?_;(repeat'(first|refine PW.seq ?_|refine PW.skip ?_|refine PW.block ?_|((first|refine PW.rg rfl fun K hK=> ?_|refine PW.draw mix kr fun K hK=> ?_);simp(disch:=omega) only[go_sem,↓reduceIte,reduceCtorEq,pic])|((first|refine zh ?_ ?_|refine zk ?_ ?_|refine And.intro ?_ ?_)<;>intro h<;>(try simp only[nqb]at h)<;>simp(disch:=omega) only[go_sem,↓reduceIte,reduceCtorEq,pic,h])|(refine hK _ _ ?_;clear hK K)|(refine PW.cond (t:=_) rfl (fun h=> ?_) (fun h=> ?_)<;>(try(cases h;done))<;>(try simp only[nqb]at h))));all_goals((refine PW.ret ⟨_,rfl,?_⟩;first|refine .inl ⟨?_,rfl⟩|refine Fin.base (.id' ?_ (.bool _))|refine Fin.base (.id' ?_ (.int _ _)));(simp_all[zkf,slot,qD]<;>first|rfl|omega|(rw[qB];simp;done)|(rw[qB];simp;omega)))
def zP(s:Sq)(p:Pi):Bool:=zcz s&&zkf p&&(s.il||((p.st==3)&&p.tf&& !p.rp))
theorem zcQ(s:Sq)(p:Pi)(H:za)(hs:SqOk s):CallOk Tryz.prog 62 [.agg (sqc s),.agg (pic p)] H (.bool (zP s p)) H:=by
 have hall:(bs s.ia++bs s.ie).all PV.cell=true:=by simp[bs,PV.cell]
 have hlen:(bs s.ia++bs s.ie).length=128:=by simp[zd,hs.ia,hs.ie]
 have htk:=zmh s.ia s.ie hs.ia hs.ie;refine CallOk.go Tryz.func62 Tryz.ntmps62 Tryz.results62 ?_;(repeat'(first|refine PW.seq ?_|refine PW.skip ?_|refine PW.block ?_|((first|refine PW.rg rfl fun K hK=> ?_|refine PW.draw mix kr fun K hK=> ?_);simp(disch:=omega) only[go_sem,↓reduceIte,reduceCtorEq,sqc,pic,hall,hlen,htk])|((first|refine zh ?_ ?_|refine zk ?_ ?_|refine And.intro ?_ ?_)<;>intro h<;>(try simp only[nqb]at h)<;>simp(disch:=omega) only[go_sem,↓reduceIte,reduceCtorEq,sqc,pic,hall,hlen,htk,h])|((first|refine VCx.call (zgn s _ hs) rfl ?_|refine VCx.call (zke p _) rfl ?_|refine VCy.call (zgn s _ hs) rfl ?_|refine VCy.call (zke p _) rfl ?_);simp(disch:=omega) only[go_sem,↓reduceIte,reduceCtorEq,sqc,pic,hall,hlen,htk])|(refine hK _ _ ?_;clear hK K)|(refine PW.cond (t:=_) rfl (fun h=> ?_) (fun h=> ?_)<;>(try(cases h;done))<;>(try simp only[nqb]at h))));all_goals((refine PW.ret ⟨_,rfl,?_⟩;first|refine .inl ⟨?_,rfl⟩|refine Fin.base (.id' ?_ (.bool _))|refine Fin.base (.id' ?_ (.int _ _)));(simp_all[zP,slot,qD]<;>first|rfl|omega|(rw[qB];simp;done)|(rw[qB];simp;omega)))
theorem zp4{s:Sq}(h:zcz s=true):16≤s.h∧s.h≤64∧16≤s.w∧s.w≤64:=by simp[zcz,vsz,mbs]at h;omega
theorem zbg{s:Sq}{p:Pi}(hv:zP s p=true):16≤s.h∧s.h≤64∧16≤s.w∧s.w≤64:=by simp only[zP,Bool.and_eq_true]at hv;exact zp4 hv.1.1
def hgt(s:Sq)(p:Pi):Int:=if p.st=3 then s.h else s.h.tdiv 2
theorem zmV(s:Sq)(p:Pi)(H:za)(hs:SqOk s)(hv:0≤s.h):CallOk Tryz.prog 106 [.agg (sqc s),.agg (pic p)] H (.int .i64 (hgt s p)) H:=by
 have hall:(bs s.ia++bs s.ie).all PV.cell=true:=by simp[bs,PV.cell]
 have hlen:(bs s.ia++bs s.ie).length=128:=by simp[zd,hs.ia,hs.ie]
 have hh:=hs.h;refine CallOk.go Tryz.func106 Tryz.ntmps106 Tryz.results106 ?_;(repeat'(first|refine PW.seq ?_|refine PW.skip ?_|refine PW.block ?_|((first|refine PW.rg rfl fun K hK=> ?_|refine PW.draw mix kr fun K hK=> ?_);simp(disch:=omega) only[go_sem,↓reduceIte,reduceCtorEq,sqc,pic,hall,hlen,zl1])|((first|refine zh ?_ ?_|refine zk ?_ ?_|refine And.intro ?_ ?_)<;>intro h<;>(try simp only[nqb]at h)<;>simp(disch:=omega) only[go_sem,↓reduceIte,reduceCtorEq,sqc,pic,hall,hlen,zl1,h])|(refine hK _ _ ?_;clear hK K)|(refine PW.cond (t:=_) rfl (fun h=> ?_) (fun h=> ?_)<;>(try(cases h;done))<;>(try simp only[nqb]at h))));all_goals((refine PW.ret ⟨_,rfl,?_⟩;first|refine .inl ⟨?_,rfl⟩|refine Fin.base (.id' ?_ (.bool _))|refine Fin.base (.id' ?_ (.int _ _)));(simp_all[hgt,slot,qD]<;>first|rfl|omega|(rw[qB];simp;done)|(rw[qB];simp;omega)))
def zaQ(s:Sq)(p:Pi):Int:=if zP s p then(if p.st=3 then s.h.tdiv 16 else s.h.tdiv 32)else 0
theorem zhf(s:Sq)(p:Pi)(H:za)(hs:SqOk s):CallOk Tryz.prog 53 [.agg (sqc s),.agg (pic p)] H (.int .i64 (zaQ s p)) H:=by
 have hall:(bs s.ia++bs s.ie).all PV.cell=true:=by simp[bs,PV.cell]
 have hlen:(bs s.ia++bs s.ie).length=128:=by simp[zd,hs.ia,hs.ie]
 have htk:=zmh s.ia s.ie hs.ia hs.ie;refine CallOk.go Tryz.func53 Tryz.ntmps53 Tryz.results53 ?_;cases hp:zP s p with
 | false=>
  have hpv:=fun H=>zcQ s p H hs;rw[hp]at hpv;(repeat'(first|refine PW.seq ?_|refine PW.skip ?_|refine PW.block ?_|((first|refine PW.rg rfl fun K hK=> ?_|refine PW.draw mix kr fun K hK=> ?_);simp(disch:=omega) only[go_sem,↓reduceIte,reduceCtorEq,sqc,pic,hall,hlen,htk])|((first|refine zh ?_ ?_|refine zk ?_ ?_|refine And.intro ?_ ?_)<;>intro h<;>(try simp only[nqb]at h)<;>simp(disch:=omega) only[go_sem,↓reduceIte,reduceCtorEq,sqc,pic,hall,hlen,htk,h])|((first|refine VCx.call (hpv _) rfl ?_|refine VCy.call (hpv _) rfl ?_);simp(disch:=omega) only[go_sem,↓reduceIte,reduceCtorEq,sqc,pic,hall,hlen,htk])|(refine hK _ _ ?_;clear hK K)|(refine PW.cond (t:=_) rfl (fun h=> ?_) (fun h=> ?_)<;>(try(cases h;done))<;>(try simp only[nqb]at h))));all_goals((refine PW.ret ⟨_,rfl,?_⟩;first|refine .inl ⟨?_,rfl⟩|refine Fin.base (.id' ?_ (.bool _))|refine Fin.base (.id' ?_ (.int _ _)));simp[zaQ,hp,slot,qD])
 | true=>
  have hpv:=fun H=>zcQ s p H hs;rw[hp]at hpv;have hh:=zbg hp;have hg:0≤hgt s p∧hgt s p≤64:=by unfold hgt;rw[zu _ _ om];split<;>omega
  (repeat'(first|refine PW.seq ?_|refine PW.skip ?_|refine PW.block ?_|((first|refine PW.rg rfl fun K hK=> ?_|refine PW.draw mix kr fun K hK=> ?_);simp(disch:=omega) only[go_sem,↓reduceIte,reduceCtorEq,sqc,pic,hall,hlen,htk,zl1])|((first|refine zh ?_ ?_|refine zk ?_ ?_|refine And.intro ?_ ?_)<;>intro h<;>(try simp only[nqb]at h)<;>simp(disch:=omega) only[go_sem,↓reduceIte,reduceCtorEq,sqc,pic,hall,hlen,htk,zl1,h])|((first|refine VCx.call (hpv _) rfl ?_|refine VCx.call (zmV s p _ hs om) rfl ?_|refine VCy.call (hpv _) rfl ?_|refine VCy.call (zmV s p _ hs om) rfl ?_);simp(disch:=omega) only[go_sem,↓reduceIte,reduceCtorEq,sqc,pic,hall,hlen,htk,zl1])|(refine hK _ _ ?_;clear hK K)|(refine PW.cond (t:=_) rfl (fun h=> ?_) (fun h=> ?_)<;>(try(cases h;done))<;>(try simp only[nqb]at h))));all_goals((refine PW.ret ⟨_,rfl,?_⟩;first|refine .inl ⟨?_,rfl⟩|refine Fin.base (.id' ?_ (.bool _))|refine Fin.base (.id' ?_ (.int _ _)));simp[zaQ,hp,slot,qD])
  simp only[hgt,zu _ _ (show 0≤s.h from om)];rw[zu _ _ (by split<;>omega)];split<;>omega
end Go.Proofs.YtpjlfoficnpfoaaGreatDoor.Sc
namespace Go.Proofs.YtpjlfoficnpfoaaGreatDoor.Lp
set_option linter.all false
open Go.ChangeShapes Go.WideShapes Go.ChangeAt Go.RowKit Pm Sc
theorem own:ownKnob Tryz.prog.godebug=none:=kr
theorem zob:laidOutB Tryz.prog=true:=kr
theorem zlQ{zs:List Int}(hw:∀ z∈zs,(Lit.int .u8 z).wf=true):∃ p:List UInt8,zs.map (PV.int .u8)=bs p∧p.length=zs.length:=by refine⟨zs.map fun z=>UInt8.ofNat z.toNat,?_,by simp⟩;simp only[bs,List.map_map];refine List.map_congr_left fun z hz=> ?_;have h1:=hw z hz;simp[Lit.wf,IntKind.min,IntKind.max,IntKind.signed,IntKind.bits]at h1;simp only[Function.comp,UInt8.toNat_ofNat'];congr 1;omega
theorem ziw{ps:List PV}(h:Shp Tryz.prog 31 ps):∃ p:List UInt8,ps=[.slice (bs p) p.length false]:=by obtain⟨zs,rfl,_,hw⟩:=h.of_ints Tryz.underlying31 Tryz.underlying5;obtain⟨p,e,hl⟩:=zlQ hw;exact⟨p,by rw[e,hl]⟩
theorem zqO{ps:List PV}(h:Shp Tryz.prog 27 ps):∃ p:List UInt8,ps=bs p∧p.length=64:=by obtain⟨zs,rfl,hl,hw⟩:=h.arr_ints Tryz.underlying27 Tryz.underlying5;obtain⟨p,e,hl'⟩:=zlQ hw;exact⟨p,e,om⟩
theorem zbu{ps:List PV}(h:Shp Tryz.prog 3 ps):∃ n:Int,ps=[.int .i64 n]∧(-9223372036854775808≤n∧n≤9223372036854775807):=by obtain⟨n,rfl,hw⟩:=h.of_int Tryz.underlying3;simp[Lit.wf,IntKind.min,IntKind.max,IntKind.signed,IntKind.bits]at hw;exact⟨n,rfl,hw⟩
theorem ziv{ps:List PV}(h:Shp Tryz.prog 2 ps):∃ n:Int,ps=[.int .i64 n]∧(-9223372036854775808≤n∧n≤9223372036854775807):=by obtain⟨n,rfl,hw⟩:=h.of_int Tryz.underlying2;simp[Lit.wf,IntKind.min,IntKind.max,IntKind.signed,IntKind.bits]at hw;exact⟨n,rfl,hw⟩
theorem zcO{ps:List PV}(h:Shp Tryz.prog 4 ps):∃ b,ps=[.bool b]:=h.of_bool Tryz.underlying4
theorem zt2{ps:List PV}(h:Shp Tryz.prog 26 ps):∃ a b:Int,ps=[.int .i64 a,.int .i64 b]∧(-9223372036854775808≤a∧a≤9223372036854775807)∧(-9223372036854775808≤b∧b≤9223372036854775807):=by
 obtain⟨pss,rfl,hf⟩:=h.fields Tryz.underlying26
 match pss,hf with
 | [a,b],⟨ha,hb,_⟩=>obtain⟨a,rfl,h1⟩:=ziv ha;obtain⟨b,rfl,h2⟩:=ziv hb;exact⟨a,b,rfl,h1,h2⟩
theorem zt1{ps:List PV}(h:Shp Tryz.prog 29 ps):∃ s:Sq,ps=sqc s∧SqOk s:=by
 obtain⟨pss,rfl,hf⟩:=h.fields Tryz.underlying29
 match pss,hf with
 | [a,b,c,d,e,f,g,k],⟨ha,hb,hc,hd,he,hf,hg,hk,_⟩=>obtain⟨a,rfl,h1⟩:=zbu ha;obtain⟨b,rfl,h2⟩:=zbu hb;obtain⟨n,m,rfl,h3,h4⟩:=zt2 hc;obtain⟨d,rfl⟩:=zcO hd;obtain⟨e,rfl,h5⟩:=zbu he;obtain⟨f,rfl,h6⟩:=zbu hf;obtain⟨p,rfl,h7⟩:=zqO hg;obtain⟨q,rfl,h8⟩:=zqO hk;exact⟨⟨a,b,n,m,d,e,f,p,q⟩,by simp[sqc],⟨h1,h2,h3,h4,h5,h6,h7,h8⟩⟩
theorem zt3{ps:List PV}(h:Shp Tryz.prog 35 ps):∃ p:Pi,ps=pic p∧(-9223372036854775808≤p.ty∧p.ty≤9223372036854775807)∧(-9223372036854775808≤p.st∧p.st≤9223372036854775807)∧(-9223372036854775808≤p.od∧p.od≤9223372036854775807):=by
 obtain⟨pss,rfl,hf⟩:=h.fields Tryz.underlying35
 match pss,hf with
 | [a,b,c,d,e,f],⟨ha,hb,hc,hd,he,hf,_⟩=>obtain⟨a,rfl,h1⟩:=zbu ha;obtain⟨b,rfl,h2⟩:=zbu hb;obtain⟨c,rfl,h3⟩:=zbu hc;obtain⟨d,rfl⟩:=zcO hd;obtain⟨e,rfl⟩:=zcO he;obtain⟨f,rfl⟩:=zcO hf;exact⟨⟨a,b,c,d,e,f⟩,rfl,h1,h2,h3⟩
theorem zqN{ps:List PV}(h:Shp Tryz.prog 58 ps):∃(t:Int) (p:List UInt8),ps=[.int .i64 t,.slice (bs p) p.length false]∧(-9223372036854775808≤t∧t≤9223372036854775807):=by
 obtain⟨pss,rfl,hf⟩:=h.fields Tryz.underlying58
 match pss,hf with
 | [a,b],⟨ha,hb,_⟩=>obtain⟨a,rfl,h1⟩:=zbu ha;obtain⟨p,rfl⟩:=ziw hb;exact⟨a,p,rfl,h1⟩
end Go.Proofs.YtpjlfoficnpfoaaGreatDoor.Lp
namespace Go.Proofs.YtpjlfoficnpfoaaGreatDoor.Sc
set_option linter.all false
open Pm Ty Go.RowKit
def bn(l:List Bool)(k:Nat):Nat:=(l[k]?.getD false).toNat
theorem zb8(l:List Bool)(k:Nat):bn l k<2:=by unfold bn;cases l[k]?.getD false<;>decide
theorem zaM(l:List Bool)(k:Nat)(h:l.length≤k):bn l k=0:=by simp[bn,qC h]
theorem zoK(l:List Bool)(b:Bool)(k:Nat):bn (l++[b]) k=if k=l.length then b.toNat else bn l k:=by
 unfold bn;by_cases h:k<l.length
 ·rw[qN h,if_neg om]
 ·by_cases h2:k=l.length
  ·subst h2;simp
  ·rw[if_neg h2,qC (by simp;omega),qC om]
def pkN(l:List Bool)(i:Nat):Nat:=128 * bn l (8 * i)+64 * bn l (8 * i+1)+32 * bn l (8 * i+2)+16 * bn l (8 * i+3)+8 * bn l (8 * i+4)+4 * bn l (8 * i+5)+2 * bn l (8 * i+6)+bn l (8 * i+7)
theorem zmE(l:List Bool)(i:Nat):pkN l i<256:=by unfold pkN;have h0:=zb8 l (8 * i);have h1:=zb8 l (8 * i+1);have h2:=zb8 l (8 * i+2);have h3:=zb8 l (8 * i+3);have h4:=zb8 l (8 * i+4);have h5:=zb8 l (8 * i+5);have h6:=zb8 l (8 * i+6);have h7:=zb8 l (8 * i+7);omega
def pkB(l:List Bool)(i:Nat):UInt8:=UInt8.ofNat (pkN l i)
theorem zuC(l:List Bool)(i:Nat):(pkB l i).toNat=pkN l i:=by have:=zmE l i;simp[pkB];omega
def pk(l:List Bool):List UInt8:=(List.range ((l.length+7) / 8)).map (pkB l)
theorem zaj(l:List Bool):(pk l).length=(l.length+7) / 8:=by simp[pk]
theorem zev(l:List Bool)(i:Nat)(h:i<(l.length+7) / 8):(pk l)[i]? =some (pkB l i):=by simp[pk,h]
theorem zry(l:List Bool)(i:Nat)(h:i<(l.length+7) / 8):byt (pk l) i=(pkN l i:Int):=by simp[byt,zev l i h,zuC]
theorem zlc(l:List Bool)(q r:Nat)(h:l.length=8 * q+r)(hr:r<8):pkN l q%2^(8 - r)=0:=by
 unfold pkN;have hz:∀ j,r≤j→bn l (8 * q+j)=0:=fun j hj=>zaM l _ om;have:r=0∨r=1∨r=2∨r=3∨r=4∨r=5∨r=6∨r=7:=om;rcases this with rfl|rfl|rfl|rfl|rfl|rfl|rfl|rfl
 ·rw[←qQ (8 * q),hz 0 om,qQ,hz 1 om,hz 2 om,hz 3 om,hz 4 om,hz 5 om,hz 6 om,hz 7 om]
 ·rw[hz 1 om,hz 2 om,hz 3 om,hz 4 om,hz 5 om,hz 6 om,hz 7 om];omega
 ·rw[hz 2 om,hz 3 om,hz 4 om,hz 5 om,hz 6 om,hz 7 om];omega
 ·rw[hz 3 om,hz 4 om,hz 5 om,hz 6 om,hz 7 om];omega
 ·rw[hz 4 om,hz 5 om,hz 6 om,hz 7 om];omega
 ·rw[hz 5 om,hz 6 om,hz 7 om];omega
 ·rw[hz 6 om,hz 7 om];omega
 ·rw[hz 7 om];omega
theorem zld(l:List Bool)(b:Bool)(q r:Nat)(h:l.length=8 * q+r)(hr:r<8):pkN (l++[b]) q=pkN l q+b.toNat * 2^(7 - r):=by
 unfold pkN;simp only[zoK,h];have hz:bn l (8 * q+r)=0:=zaM l _ om;have:r=0∨r=1∨r=2∨r=3∨r=4∨r=5∨r=6∨r=7:=om;rcases this with rfl|rfl|rfl|rfl|rfl|rfl|rfl|rfl;all_goals simp only[qQ]at hz ⊢
 all_goals simp(disch:=omega) only[if_neg,if_true,hz,Nat.reducePow,Nat.reduceSub]
 all_goals omega
theorem zf5(l:List Bool)(b:Bool)(q i:Nat)(h:8 * q≤l.length)(hi:i<q):pkN (l++[b]) i=pkN l i:=by unfold pkN;simp(disch:=omega) only[zoK,if_neg]
theorem zrx(l:List Bool)(b:Bool)(q:Nat)(h:l.length=8 * q):pk (l++[b])=pk l++[UInt8.ofNat (b.toNat * 128)]:=by
 apply qJ;intro i;by_cases h1:i<q
 ·rw[zev _ i (by simp;omega),qN (by rw[zaj];omega),zev _ i om];simp only[pkB,zf5 l b q i om h1]
 ·by_cases h2:i=q
  ·subst h2;rw[zev _ i (by simp;omega),qL (by rw[zaj];omega),zaj,show i - (l.length+7) / 8=0 from om];have h0:pkN l i=0:=by unfold pkN;rw[zaM l (8 * i) om,zaM l (8 * i+1) om,zaM l (8 * i+2) om,zaM l (8 * i+3) om,zaM l (8 * i+4) om,zaM l (8 * i+5) om,zaM l (8 * i+6) om,zaM l (8 * i+7) om]
   have:=zld l b i 0 om om;simp[pkB,this,h0]
  ·rw[qC (by rw[zaj];simp;omega),qC (by simp[zaj];omega)]
theorem zrw(l:List Bool)(b:Bool)(q r:Nat)(h:l.length=8 * q+r)(hr0:0<r)(hr:r<8):pk (l++[b])=(pk l).set q (UInt8.ofNat (pkN l q+b.toNat * 2^(7 - r))):=by
 apply qJ;intro i;rw[List.getElem?_set];by_cases h1:i<q
 ·rw[if_neg om,zev _ i (by simp;omega),zev _ i om];simp only[pkB,zf5 l b q i om h1]
 ·by_cases h2:i=q
  ·subst h2;rw[if_pos rfl,if_pos (by rw[zaj];omega),zev _ i (by simp;omega)];simp only[pkB,zld l b i r h hr]
  ·rw[if_neg om,qC (by rw[zaj];simp;omega),qC (by rw[zaj];omega)]
def zO(V n:Nat):List Bool:=(List.range n).map fun i=>decide (V / 2^(n - 1 - i)%2=1)
theorem zN(V n:Nat):(zO V n).length=n:=by simp[zO]
theorem zl4(V n i:Nat)(h:i<n):(zO V n).take (i+1)=(zO V n).take i++[decide (V / 2^(n - 1 - i)%2=1)]:=by rw[qH (by rw[zN];exact h)];simp[zO]
theorem ziW(m:Nat):(decide (m%2=1)).toNat=m%2:=by rcases Nat.mod_two_eq_zero_or_one m with h|h<;>simp[h]
def two(H:za)(i j:Nat)(A B:Blk):za:=(H.set i A).set j B
theorem zeK(H:za)(i j:Nat)(A B:Blk)(h:i<H.length∧i≠j):(two H i j A B)[i]? =some A:=by unfold two;rw[List.getElem?_set_ne om];simp[h.1]
theorem zeJ(H:za)(i j:Nat)(A B:Blk)(h:j<H.length):(two H i j A B)[j]? =some B:=by unfold two;simp[h]
theorem zl8(H:za)(i j:Nat)(A B X:Blk)(h:i≠j):(two H i j A B).set i X=two H i j X B:=by unfold two;rw[List.set_comm _ _ om,List.set_set]
theorem zl7(H:za)(i j:Nat)(A B X:Blk):(two H i j A B).set j X=two H i j A X:=by unfold two;rw[List.set_set]
theorem zaG(H:za)(i j:Nat)(A B:Blk):(two H i j A B).length=H.length:=by simp[two]
theorem zaO{H:za}{i:Nat}{A:Blk}(h:H[i]? =some A):H.set i A=H:=by
 apply qJ;intro j;rw[List.getElem?_set];split
 ·rename_i e;subst e;split
  ·exact h.symm
  ·rename_i hn;exact absurd (qG.1 h).1 hn
 ·rfl
theorem zkF{H:za}{i j:Nat}{A B:Blk}(h:H[i]? =some A)(h':H[j]? =some B):two H i j A B=H:=by unfold two;rw[zaO h,zaO h']
theorem zns(x:Nat):(x:Int).tmod 8=((x%8:Nat):Int):=zqe x 8
theorem znz(x:Nat):(x:Int).tdiv 8=((x / 8:Nat):Int):=zv2 x 8
theorem zoJ(b:List UInt8)(i n:Nat)(h:n<256):(bs b).set i (.int .u8 (n:Int))=bs (b.set i (UInt8.ofNat n)):=by rw[←zte];congr 2;simp;omega
def zbF(L:List Bool):List UInt8:=if L.length%8=0 then pk L++[0]else pk L
theorem ziA(L:List Bool):(zbF L).length=L.length / 8+1:=by
 unfold zbF;split
 ·simp[zaj];omega
 ·rw[zaj];omega
theorem zlb(l:List Bool)(i:Nat)(h:l.length≤8 * i):pkN l i=0:=by unfold pkN;rw[zaM l (8 * i) om,zaM l (8 * i+1) om,zaM l (8 * i+2) om,zaM l (8 * i+3) om,zaM l (8 * i+4) om,zaM l (8 * i+5) om,zaM l (8 * i+6) om,zaM l (8 * i+7) om]
theorem ziB(L:List Bool):byt (zbF L) (L.length / 8)=(pkN L (L.length / 8):Int):=by
 unfold zbF;split
 ·rename_i h;rw[zlb L _ om];unfold byt;simp only[List.getD];rw[qL (by rw[zaj];omega),zaj,show L.length / 8 - (L.length+7) / 8=0 from om];rfl
 ·exact zry L _ om
theorem ziz(L:List Bool)(b:Bool):(zbF L).set (L.length / 8) (UInt8.ofNat (pkN L (L.length / 8)+b.toNat * 2^(7 - L.length%8)))=pk (L++[b]):=by
 unfold zbF;split
 ·rename_i h;rw[zlb L _ om,h,zrx L b (L.length / 8) om,List.set_append_right _ _ (by rw[zaj];omega),zaj,show L.length / 8 - (L.length+7) / 8=0 from om];simp
 ·rename_i h;rw[zrw L b (L.length / 8) (L.length%8) om om om]
def wA(j:Nat)(l:List Bool):Blk:=⟨313,0,[.msl j (bs (pk l)).length 0 (pk l).length 1 true,.int .i64 (l.length:Int)]⟩
def wB(l:List Bool):Blk:=⟨5,(bs (pk l)).length,bs (pk l)⟩
theorem zfF(i j:Nat)(l:List Bool)(V n:Nat)(H:za)(hA:H[i]? =some (wA j l))(hB:H[j]? =some (wB l))(hne:i≠j)(hn:n≤32)(hV:V / 2^n=0)(hl:l.length≤1000000000):
  CallOk Tryz.prog 153 [.ptr i 0 0,.int .u32 (V:Int),.int .i64 (n:Int)] H (.int .i64 0) (two H i j (wA j (l++zO V n)) (wB (l++zO V n))):=by
 have hi:=(qG.1 hA).1;have hj:=(qG.1 hB).1;have hself:=zkF hA hB;refine CallOk.go Tryz.func153 Tryz.ntmps153 Tryz.results153 ?_;refine PW.eq rfl hself.symm ?_;refine PW.e ?_;have e0:((V / 2^n:Nat):Int)=0:=by rw[hV];rfl
 (repeat'(first|refine PW.seq ?_|refine PW.skip ?_|refine PW.block ?_|((first|refine PW.rg rfl fun K hK=> ?_|refine PW.draw mix kr fun K hK=> ?_);simp(disch:=omega) only[go_sem,↓reduceIte,reduceCtorEq,zeK,zeJ,wA,zhe,e0])|((first|refine zh ?_ ?_|refine zk ?_ ?_|refine And.intro ?_ ?_)<;>intro h<;>(try simp only[nqb]at h)<;>simp(disch:=omega) only[go_sem,↓reduceIte,reduceCtorEq,zeK,zeJ,wA,zhe,e0,h])|(refine hK _ _ ?_;clear hK K)|(refine PW.cond (t:=_) rfl (fun h=> ?_) (fun h=> ?_)<;>(try(cases h;done))<;>(try simp only[nqb]at h))));refine PW.loop ?_;suffices hloop:∀(k:Nat) (L:List Bool),k≤n→L=l++(zO V n).take k→PL Tryz.prog _ _ [(0,.ptr i 0 0),(1,.int .u32 (V:Int)),(2,.int .i64 (n:Int)),(23,.int .i64 (n:Int)),(24,.int .i64 (k:Int))] (two H i j (wA j L) (wB L)) _ by exact PL.at [0,1,2,23,24] (hloop 0 l (Nat.zero_le _) sp) rfl rfl
 intro k L hk hL;have hLl:L.length=l.length+k:=by rw[hL,qE,List.length_take,zN];omega
 induction hm:n - k using qK generalizing k L with
 | _ m ih=>
  refine PL.round ?_;refine PW.e ?_;refine PW.c (fun h=> ?_) (fun h=> ?_)
  ·have h4:k<n:=ot h;have hsn:l++(zO V n).take (k+1)=L++[decide (V / 2^(n - 1 - k)%2=1)]:=by rw[zl4 V n k h4,hL,List.append_assoc]
   have hL1:(L++[decide (V / 2^(n - 1 - k)%2=1)]).length=l.length+(k+1):=by simp[hLl];omega
   have hnext:=ih (n - (k+1)) om (k+1) _ om hsn.symm hL1 rfl;have hbt:=ziW (V / 2^(n - 1 - k));have e1:(n:Int) - 1 - (k:Int)=((n - 1 - k:Nat):Int):=om;have hmd:V / 2^(n - 1 - k)%2<2:=qM _ om;refine PW.skip ?_;refine PW.b ?_;refine PW.e ?_;refine PW.to [0,1,2,7,23,24] [(0,.ptr i 0 0),(1,.int .u32 (V:Int)),(2,.int .i64 (n:Int)),(7,.int .i64 (k:Int)),(23,.int .i64 (n:Int)),(24,.int .i64 (k:Int))]
    (two H i j ⟨313,0,[.msl j (bs (zbF L)).length 0 (zbF L).length 1 true,.int .i64 (L.length:Int)]⟩ ⟨5,(bs (zbF L)).length,bs (zbF L)⟩) ?_ ?_
   ·refine PW.f (fun K k=>by simp(disch:=omega) only[go_sem,↓reduceIte,reduceCtorEq,zeK,zeJ,wA,zns];exact k) ?_;refine PW.c (fun h=> ?_) (fun h=> ?_)
    ·have h5:L.length%8=0:=by simp at h;omega
     have hpl:=zaj L;refine PW.f (fun K k=>by simp(disch:=omega) only[go_sem,↓reduceIte,reduceCtorEq,zeK,zeJ,zl8,zl7,wA,wB,zd,zaG];exact k) ?_;have e2:zbF L=pk L++[0]:=by unfold zbF;rw[if_pos h5]
     refine⟨by simp[kp,slot,qD],?_⟩;rw[e2,zF];simp[bs,zd]
    ·have h5:¬ L.length%8=0:=by simp at h;omega
     have e2:zbF L=pk L:=by unfold zbF;rw[if_neg h5]
     refine PW.skip ⟨by simp[kp,slot,qD],?_⟩;rw[e2];rfl
   refine PW.f (fun K k=>by simp(disch:=omega) only[go_sem,↓reduceIte,reduceCtorEq,e1,zhe,zpt];exact k) ?_;have hrl:=ziA L;have hrb:=ziB L;have hrs:=ziz L (decide (V / 2^(n - 1 - k)%2=1));rw[hbt]at hrs;have hpk:=zmE L (L.length / 8);have hz:=zlc L (L.length / 8) (L.length%8) om (qM _ om);rw[show 8 - L.length%8=7 - L.length%8+1 from om]at hz;have hr8:L.length%8<8:=qM _ om;have e3:(7:Int) - ((L.length%8:Nat):Int)=((7 - L.length%8:Nat):Int):=om;generalize V / 2^(n - 1 - k)%2=c at *;generalize hq:L.length / 8=q at *;generalize hp:pkN L q=v at *;generalize hs:7 - L.length%8=s at *;have hs7:s<8:=om;have hsum:v+c * 2^s<256:=by have h2:c * 2^s≤1 * 2^s:=Nat.mul_le_mul_right _ om;have h3:s=0∨s=1∨s=2∨s=3∨s=4∨s=5∨s=6∨s=7:=om;rcases h3 with h3|h3|h3|h3|h3|h3|h3|h3;all_goals(rw[h3]at hz h2 ⊢;simp at hz h2 ⊢;omega)
   have hsh:c * 2^s<256:=om;(repeat refine PW.seq ?_);refine PW.draw mix kr fun K hK=> ?_;simp(disch:=omega) only[go_sem,↓reduceIte,reduceCtorEq,zeK,zeJ,zl8,zl7,zaG,zd,zns,znz,hq,hs,e3,zaX,hrb,zur,zro,zoJ];refine hK _ _ ?_;clear hK K;refine PW.f (fun K k=>by simp(disch:=omega) only[go_sem,↓reduceIte,reduceCtorEq,zeK,zeJ,zl8,zl7,zaG];exact k) ?_;refine PW.e ?_;refine PL.at [0,1,2,23,24] hnext rfl ?_;rw[wA,wB,←hrs];simp[zd,List.length_set]
  ·have h4:k=n:=ofF h;subst h4;rw[qF (by rw[zN];exact Nat.le_refl _)]at hL;refine PW.exit ?_;refine PW.e ?_;subst hL;exact PW.ret ⟨_,rfl,Fin.now⟩
end Go.Proofs.YtpjlfoficnpfoaaGreatDoor.Sc
