/-
  Parts of the proof, put together in one text. No condition.
-/
import Derived.Test.YtpjlfoficnpfoaaGreatDoorV06
import Derived.Test.YtpjlfoficnpfoaaGreatDoorProg
import Derived.KernelRfl
import Derived.Test.YtpjlfoficnpfoaaGreatDoorRows
open Bool renaming eq_iff_iff → qA, and_eq_true → qK
open Int renaming tmod_eq_emod_of_nonneg → qM
open List renaming replicate → qB, getElem?_eq_none → qD, length_append → qE, take_of_length_le → qF, take_succ_eq_append_getElem → qH, mem_map → qI, getElem?_append_left → qL, drop_of_length_le → qN, mem_of_getElem? → qQ
open Nat renaming beq → qC, strongRecOn → qG, gcd_comm → qJ, gcd → qO, add_zero → qP
namespace Go.Proofs.YtpjlfoficnpfoaaGreatDoor.Ty
open Pm
theorem sz0:szT Tryz.prog 0=some 1∧byT Tryz.prog 0=some 0∧szT Tryz.prog 1=some 1∧byT Tryz.prog 1=some 8∧szT Tryz.prog 2=some 1∧byT Tryz.prog 2=some 8∧szT Tryz.prog 3=some 1∧byT Tryz.prog 3=some 8∧szT Tryz.prog 4=some 1∧byT Tryz.prog 4=some 1∧szT Tryz.prog 5=some 1∧byT Tryz.prog 5=some 1∧szT Tryz.prog 6=some 1∧byT Tryz.prog 6=some 1∧szT Tryz.prog 7=some 4∧byT Tryz.prog 7=some 24∧szT Tryz.prog 8=some 4∧byT Tryz.prog 8=some 24∧szT Tryz.prog 9=some 1∧byT Tryz.prog 9=some 16∧szT Tryz.prog 10=some 1∧byT Tryz.prog 10=some 16∧szT Tryz.prog 11=some 1∧byT Tryz.prog 11=some 16∧szT Tryz.prog 13=some 2∧byT Tryz.prog 13=some 24∧szT Tryz.prog 18=some 1∧byT Tryz.prog 18=some 8∧szT Tryz.prog 19=some 1∧byT Tryz.prog 19=some 8∧szT Tryz.prog 20=some 1∧byT Tryz.prog 20=some 16∧szT Tryz.prog 22=some 1∧byT Tryz.prog 22=some 24∧szT Tryz.prog 23=some 1∧byT Tryz.prog 23=some 8∧szT Tryz.prog 26=some 2∧byT Tryz.prog 26=some 16∧szT Tryz.prog 27=some 64∧byT Tryz.prog 27=some 64:=by and_intros<;>kernel_rfl
theorem sz40:szT Tryz.prog 28=some 135∧byT Tryz.prog 28=some 184∧szT Tryz.prog 29=some 135∧byT Tryz.prog 29=some 184∧szT Tryz.prog 30=some 1∧byT Tryz.prog 30=some 24∧szT Tryz.prog 31=some 1∧byT Tryz.prog 31=some 24∧szT Tryz.prog 32=some 5∧byT Tryz.prog 32=some 88∧szT Tryz.prog 33=some 5∧byT Tryz.prog 33=some 88∧szT Tryz.prog 34=some 6∧byT Tryz.prog 34=some 32∧szT Tryz.prog 35=some 6∧byT Tryz.prog 35=some 32∧szT Tryz.prog 36=some 1∧byT Tryz.prog 36=some 24∧szT Tryz.prog 37=some 1∧byT Tryz.prog 37=some 24∧szT Tryz.prog 38=some 8∧byT Tryz.prog 38=some 80∧szT Tryz.prog 39=some 8∧byT Tryz.prog 39=some 80∧szT Tryz.prog 41=some 3∧byT Tryz.prog 41=some 16∧szT Tryz.prog 42=some 148∧byT Tryz.prog 42=some 296∧szT Tryz.prog 43=some 148∧byT Tryz.prog 43=some 296∧szT Tryz.prog 44=some 1∧byT Tryz.prog 44=some 8∧szT Tryz.prog 45=some 1∧byT Tryz.prog 45=some 0∧szT Tryz.prog 46=some 1∧byT Tryz.prog 46=some 8∧szT Tryz.prog 47=some 1∧byT Tryz.prog 47=some 8∧szT Tryz.prog 48=some 1∧byT Tryz.prog 48=some 8:=by and_intros<;>kernel_rfl
theorem sz80:szT Tryz.prog 49=some 1∧byT Tryz.prog 49=some 24∧szT Tryz.prog 50=some 1∧byT Tryz.prog 50=some 8∧szT Tryz.prog 53=some 11∧byT Tryz.prog 53=some 136∧szT Tryz.prog 54=some 1∧byT Tryz.prog 54=some 24∧szT Tryz.prog 55=some 1∧byT Tryz.prog 55=some 24∧szT Tryz.prog 56=some 1∧byT Tryz.prog 56=some 8∧szT Tryz.prog 57=some 2∧byT Tryz.prog 57=some 32∧szT Tryz.prog 58=some 2∧byT Tryz.prog 58=some 32∧szT Tryz.prog 59=some 1∧byT Tryz.prog 59=some 0∧szT Tryz.prog 60=some 1∧byT Tryz.prog 60=some 8∧szT Tryz.prog 61=some 1∧byT Tryz.prog 61=some 24∧szT Tryz.prog 65=some 1∧byT Tryz.prog 65=some 24∧szT Tryz.prog 67=some 1∧byT Tryz.prog 67=some 8∧szT Tryz.prog 69=some 6∧byT Tryz.prog 69=some 48∧szT Tryz.prog 71=some 147∧byT Tryz.prog 71=some 264∧szT Tryz.prog 72=some 1∧byT Tryz.prog 72=some 0∧szT Tryz.prog 74=some 1∧byT Tryz.prog 74=some 8∧szT Tryz.prog 75=some 1∧byT Tryz.prog 75=some 24∧szT Tryz.prog 76=some 145∧byT Tryz.prog 76=some 296∧szT Tryz.prog 77=some 145∧byT Tryz.prog 77=some 296:=by and_intros<;>kernel_rfl
theorem zwz:szT Tryz.prog 79=some 1∧byT Tryz.prog 79=some 8∧szT Tryz.prog 80=some 6∧byT Tryz.prog 80=some 48∧szT Tryz.prog 81=some 1∧byT Tryz.prog 81=some 8∧szT Tryz.prog 84=some 15∧byT Tryz.prog 84=some 264∧szT Tryz.prog 86=some 1∧byT Tryz.prog 86=some 8∧szT Tryz.prog 87=some 1∧byT Tryz.prog 87=some 8∧szT Tryz.prog 90=some 1∧byT Tryz.prog 90=some 8∧szT Tryz.prog 93=some 1∧byT Tryz.prog 93=some 8∧szT Tryz.prog 95=some 1∧byT Tryz.prog 95=some 8∧szT Tryz.prog 96=some 6∧byT Tryz.prog 96=some 96∧szT Tryz.prog 98=some 1∧byT Tryz.prog 98=some 8∧szT Tryz.prog 100=some 1∧byT Tryz.prog 100=some 0∧szT Tryz.prog 101=some 1∧byT Tryz.prog 101=some 8∧szT Tryz.prog 103=some 3∧byT Tryz.prog 103=some 40∧szT Tryz.prog 105=some 5∧byT Tryz.prog 105=some 56∧szT Tryz.prog 107=some 2∧byT Tryz.prog 107=some 16∧szT Tryz.prog 108=some 2∧byT Tryz.prog 108=some 16∧szT Tryz.prog 113=some 6∧byT Tryz.prog 113=some 64∧szT Tryz.prog 114=some 1∧byT Tryz.prog 114=some 8∧szT Tryz.prog 115=some 1∧byT Tryz.prog 115=some 8:=by and_intros<;>kernel_rfl
theorem zwy:szT Tryz.prog 118=some 145∧byT Tryz.prog 118=some 248∧szT Tryz.prog 121=some 1∧byT Tryz.prog 121=some 24∧szT Tryz.prog 122=some 1∧byT Tryz.prog 122=some 0∧szT Tryz.prog 124=some 1∧byT Tryz.prog 124=some 0∧szT Tryz.prog 127=some 3∧byT Tryz.prog 127=some 56∧szT Tryz.prog 128=some 3∧byT Tryz.prog 128=some 56∧szT Tryz.prog 129=some 1∧byT Tryz.prog 129=some 0∧szT Tryz.prog 133=some 1∧byT Tryz.prog 133=some 8∧szT Tryz.prog 138=some 2∧byT Tryz.prog 138=some 2∧szT Tryz.prog 140=some 2∧byT Tryz.prog 140=some 16∧szT Tryz.prog 141=some 4∧byT Tryz.prog 141=some 32∧szT Tryz.prog 142=some 8∧byT Tryz.prog 142=some 64∧szT Tryz.prog 143=some 2∧byT Tryz.prog 143=some 16∧szT Tryz.prog 144=some 4∧byT Tryz.prog 144=some 32∧szT Tryz.prog 145=some 6∧byT Tryz.prog 145=some 6∧szT Tryz.prog 146=some 64∧byT Tryz.prog 146=some 512∧szT Tryz.prog 147=some 384∧byT Tryz.prog 147=some 3072∧szT Tryz.prog 149=some 408∧byT Tryz.prog 149=some 3200∧szT Tryz.prog 152=some 4∧byT Tryz.prog 152=some 24∧szT Tryz.prog 155=some 1∧byT Tryz.prog 155=some 8:=by and_intros<;>kernel_rfl
theorem zwx:szT Tryz.prog 158=some 4∧byT Tryz.prog 158=some 32∧szT Tryz.prog 160=some 1∧byT Tryz.prog 160=some 8∧szT Tryz.prog 161=some 1∧byT Tryz.prog 161=some 8∧szT Tryz.prog 164=some 1∧byT Tryz.prog 164=some 8∧szT Tryz.prog 165=some 4∧byT Tryz.prog 165=some 24∧szT Tryz.prog 169=some 1∧byT Tryz.prog 169=some 8∧szT Tryz.prog 174=some 1∧byT Tryz.prog 174=some 0∧szT Tryz.prog 176=some 1∧byT Tryz.prog 176=some 8∧szT Tryz.prog 177=some 1∧byT Tryz.prog 177=some 8∧szT Tryz.prog 178=some 1∧byT Tryz.prog 178=some 8∧szT Tryz.prog 185=some 1∧byT Tryz.prog 185=some 8∧szT Tryz.prog 188=some 1∧byT Tryz.prog 188=some 8∧szT Tryz.prog 191=some 1∧byT Tryz.prog 191=some 8∧szT Tryz.prog 192=some 1∧byT Tryz.prog 192=some 8∧szT Tryz.prog 193=some 139∧byT Tryz.prog 193=some 216∧szT Tryz.prog 194=some 139∧byT Tryz.prog 194=some 216∧szT Tryz.prog 195=some 1∧byT Tryz.prog 195=some 0∧szT Tryz.prog 197=some 1∧byT Tryz.prog 197=some 8∧szT Tryz.prog 198=some 1∧byT Tryz.prog 198=some 8∧szT Tryz.prog 199=some 1∧byT Tryz.prog 199=some 0:=by and_intros<;>kernel_rfl
theorem zww:szT Tryz.prog 201=some 1∧byT Tryz.prog 201=some 4∧szT Tryz.prog 202=some 1∧byT Tryz.prog 202=some 0∧szT Tryz.prog 203=some 1∧byT Tryz.prog 203=some 8∧szT Tryz.prog 204=some 3∧byT Tryz.prog 204=some 24∧szT Tryz.prog 206=some 8∧byT Tryz.prog 206=some 64∧szT Tryz.prog 208=some 1∧byT Tryz.prog 208=some 0∧szT Tryz.prog 211=some 1∧byT Tryz.prog 211=some 0∧szT Tryz.prog 213=some 1∧byT Tryz.prog 213=some 8∧szT Tryz.prog 214=some 1∧byT Tryz.prog 214=some 8∧szT Tryz.prog 215=some 1∧byT Tryz.prog 215=some 0∧szT Tryz.prog 216=some 1∧byT Tryz.prog 216=some 8∧szT Tryz.prog 217=some 8∧byT Tryz.prog 217=some 64∧szT Tryz.prog 218=some 1∧byT Tryz.prog 218=some 0∧szT Tryz.prog 226=some 1∧byT Tryz.prog 226=some 8∧szT Tryz.prog 230=some 1∧byT Tryz.prog 230=some 0∧szT Tryz.prog 239=some 1∧byT Tryz.prog 239=some 0∧szT Tryz.prog 245=some 1∧byT Tryz.prog 245=some 8∧szT Tryz.prog 259=some 1∧byT Tryz.prog 259=some 8∧szT Tryz.prog 268=some 1∧byT Tryz.prog 268=some 8∧szT Tryz.prog 269=some 1∧byT Tryz.prog 269=some 8:=by and_intros<;>kernel_rfl
theorem zwv:szT Tryz.prog 270=some 1∧byT Tryz.prog 270=some 8∧szT Tryz.prog 272=some 3∧byT Tryz.prog 272=some 40∧szT Tryz.prog 276=some 15∧byT Tryz.prog 276=some 112∧szT Tryz.prog 277=some 1∧byT Tryz.prog 277=some 8∧szT Tryz.prog 279=some 1∧byT Tryz.prog 279=some 8∧szT Tryz.prog 280=some 1∧byT Tryz.prog 280=some 24∧szT Tryz.prog 284=some 2∧byT Tryz.prog 284=some 32∧szT Tryz.prog 285=some 1∧byT Tryz.prog 285=some 8∧szT Tryz.prog 287=some 1∧byT Tryz.prog 287=some 0∧szT Tryz.prog 289=some 1∧byT Tryz.prog 289=some 8∧szT Tryz.prog 290=some 1∧byT Tryz.prog 290=some 8∧szT Tryz.prog 301=some 1∧byT Tryz.prog 301=some 8∧szT Tryz.prog 308=some 1∧byT Tryz.prog 308=some 8∧szT Tryz.prog 311=some 1∧byT Tryz.prog 311=some 8∧szT Tryz.prog 313=some 2∧byT Tryz.prog 313=some 32∧szT Tryz.prog 315=some 2∧byT Tryz.prog 315=some 16∧szT Tryz.prog 319=some 1∧byT Tryz.prog 319=some 8∧szT Tryz.prog 321=some 1∧byT Tryz.prog 321=some 8∧szT Tryz.prog 329=some 1∧byT Tryz.prog 329=some 8∧szT Tryz.prog 348=some 1∧byT Tryz.prog 348=some 8:=by and_intros<;>kernel_rfl
theorem zwu:szT Tryz.prog 356=some 1∧byT Tryz.prog 356=some 8∧szT Tryz.prog 360=some 1∧byT Tryz.prog 360=some 8∧szT Tryz.prog 362=some 1∧byT Tryz.prog 362=some 8∧szT Tryz.prog 363=some 1∧byT Tryz.prog 363=some 0∧szT Tryz.prog 371=some 1∧byT Tryz.prog 371=some 8∧szT Tryz.prog 372=some 1∧byT Tryz.prog 372=some 8:=by and_intros<;>kernel_rfl
theorem zc0:zd Tryz.prog 2=some [.int .i64 0]∧zd Tryz.prog 3=some [.int .i64 0]∧zd Tryz.prog 4=some [.bool false]∧zd Tryz.prog 5=some [.int .u8 0]∧zd Tryz.prog 6=some [.int .u8 0]∧zd Tryz.prog 7=some [.int .i64 0,.int .i64 0,.bool false,.int .u8 0]∧zd Tryz.prog 8=some [.int .i64 0,.int .i64 0,.bool false,.int .u8 0]∧zd Tryz.prog 9=some [.str []]∧zd Tryz.prog 10=some [.str []]∧zd Tryz.prog 11=some [.str []]∧zd Tryz.prog 13=some [.str [],.int .u64 0]∧zd Tryz.prog 18=some [.nilp]∧zd Tryz.prog 19=some [.nilp]∧zd Tryz.prog 22=some [.slice [] 0 true]∧zd Tryz.prog 26=some [.int .i64 0,.int .i64 0]∧zd Tryz.prog 27=some (qB 64 (PV.int .u8 0):List PV)∧zd Tryz.prog 28=some (([.int .i64 0,.int .i64 0,.int .i64 0,.int .i64 0,.bool false,.int .i64 0,.int .i64 0]:List PV)++(qB 128 (PV.int .u8 0):List PV))∧zd Tryz.prog 29=some (([.int .i64 0,.int .i64 0,.int .i64 0,.int .i64 0,.bool false,.int .i64 0,.int .i64 0]:List PV)++(qB 128 (PV.int .u8 0):List PV))∧zd Tryz.prog 30=some [.slice [] 0 true]∧zd Tryz.prog 31=some [.slice [] 0 true]∧zd Tryz.prog 32=some [.int .i64 0,.int .i64 0,.slice [] 0 true,.slice [] 0 true,.slice [] 0 true]∧zd Tryz.prog 33=some [.int .i64 0,.int .i64 0,.slice [] 0 true,.slice [] 0 true,.slice [] 0 true]∧zd Tryz.prog 34=some [.int .i64 0,.int .i64 0,.int .i64 0,.bool false,.bool false,.bool false]∧zd Tryz.prog 35=some [.int .i64 0,.int .i64 0,.int .i64 0,.bool false,.bool false,.bool false]∧zd Tryz.prog 36=some [.slice [] 0 true]∧zd Tryz.prog 37=some [.slice [] 0 true]∧zd Tryz.prog 38=some [.int .i64 0,.int .i64 0,.int .i64 0,.bool false,.bool false,.bool false,.slice [] 0 true,.slice [] 0 true]∧zd Tryz.prog 39=some [.int .i64 0,.int .i64 0,.int .i64 0,.bool false,.bool false,.bool false,.slice [] 0 true,.slice [] 0 true]∧zd Tryz.prog 41=some [.bool false,.bool false,.int .i64 0]∧zd Tryz.prog 42=some (([.int .i64 0,.int .i64 0,.int .i64 0,.int .i64 0,.int .i64 0,.bool false,.int .i64 0,.int .i64 0]:List PV)++(qB 128 (PV.int .u8 0):List PV)++([.bool false,.bool false,.int .i64 0,.int .i64 0,.int .i64 0,.int .i64 0,.bool false,.bool false,.bool false,.slice [] 0 true,.slice [] 0 true,.int .i64 0]:List PV))∧zd Tryz.prog 43=some (([.int .i64 0,.int .i64 0,.int .i64 0,.int .i64 0,.int .i64 0,.bool false,.int .i64 0,.int .i64 0]:List PV)++(qB 128 (PV.int .u8 0):List PV)++([.bool false,.bool false,.int .i64 0,.int .i64 0,.int .i64 0,.int .i64 0,.bool false,.bool false,.bool false,.slice [] 0 true,.slice [] 0 true,.int .i64 0]:List PV))∧zd Tryz.prog 44=some [.int .i64 0]∧zd Tryz.prog 49=some [.slice [] 0 true]∧zd Tryz.prog 53=some [.int .i64 0,.int .i64 0,.slice [] 0 true,.slice [] 0 true,.slice [] 0 true,.int .i64 0,.int .i64 0,.int .i64 0,.bool false,.int .i64 0,.bool false]∧zd Tryz.prog 54=some [.slice [] 0 true]∧zd Tryz.prog 55=some [.slice [] 0 true]∧zd Tryz.prog 57=some [.int .i64 0,.slice [] 0 true]∧zd Tryz.prog 58=some [.int .i64 0,.slice [] 0 true]∧zd Tryz.prog 61=some [.slice [] 0 true]∧zd Tryz.prog 65=some [.slice [] 0 true]:=by and_intros<;>kernel_rfl
theorem zc40:zd Tryz.prog 69=some [.int .i64 0,.int .i64 0,.int .i64 0,.int .i64 0,.int .i64 0,.int .i64 0]∧zd Tryz.prog 71=some (([.int .i64 0,.int .i64 0,.int .i64 0,.int .i64 0,.int .i64 0,.int .i64 0,.int .i64 0,.int .i64 0,.int .i64 0,.int .i64 0,.bool false,.int .i64 0,.int .i64 0]:List PV)++(qB 128 (PV.int .u8 0):List PV)++([.int .i64 0,.int .i64 0,.int .i64 0,.bool false,.bool false,.bool false]:List PV))∧zd Tryz.prog 75=some [.slice [] 0 true]∧zd Tryz.prog 76=some (([.slice [] 0 true,.bool false,.int .i64 0,.int .i64 0,.int .i64 0,.int .i64 0,.bool false,.int .i64 0,.int .i64 0]:List PV)++(qB 128 (PV.int .u8 0):List PV)++([.int .i64 0,.int .i64 0,.bool false,.int .i64 0,.int .i64 0,.int .i64 0,.slice [] 0 true,.bool false]:List PV))∧zd Tryz.prog 77=some (([.slice [] 0 true,.bool false,.int .i64 0,.int .i64 0,.int .i64 0,.int .i64 0,.bool false,.int .i64 0,.int .i64 0]:List PV)++(qB 128 (PV.int .u8 0):List PV)++([.int .i64 0,.int .i64 0,.bool false,.int .i64 0,.int .i64 0,.int .i64 0,.slice [] 0 true,.bool false]:List PV))∧zd Tryz.prog 80=some [.int .i64 0,.int .i64 0,.int .i64 0,.int .i64 0,.int .i64 0,.int .i64 0]∧zd Tryz.prog 84=some [.int .i64 0,.int .i64 0,.slice [] 0 true,.slice [] 0 true,.slice [] 0 true,.int .i64 0,.int .i64 0,.slice [] 0 true,.slice [] 0 true,.slice [] 0 true,.int .i64 0,.int .i64 0,.slice [] 0 true,.slice [] 0 true,.slice [] 0 true]∧zd Tryz.prog 96=some [.int .i64 0,.int .i64 0,.slice [] 0 true,.slice [] 0 true,.slice [] 0 true,.bool false]∧zd Tryz.prog 103=some [.slice [] 0 true,.int .i64 0,.bool false]∧zd Tryz.prog 105=some [.int .i64 0,.slice [] 0 true,.int .i64 0,.int .i64 0,.int .i64 0]∧zd Tryz.prog 107=some [.int .i64 0,.int .i64 0]∧zd Tryz.prog 108=some [.int .i64 0,.int .i64 0]∧zd Tryz.prog 113=some [.slice [] 0 true,.int .i64 0,.int .i64 0,.bool false,.int .i64 0,.int .i64 0]∧zd Tryz.prog 118=some (([.int .i64 0,.int .i64 0,.int .i64 0,.int .i64 0,.int .i64 0,.int .i64 0,.bool false,.int .i64 0,.int .i64 0]:List PV)++(qB 128 (PV.int .u8 0):List PV)++([.int .i64 0,.int .i64 0,.int .i64 0,.bool false,.bool false,.bool false,.bool false,.int .i64 0]:List PV))∧zd Tryz.prog 121=some [.slice [] 0 true]∧zd Tryz.prog 127=some [.int .i64 0,.slice [] 0 true,.slice [] 0 true]∧zd Tryz.prog 128=some [.int .i64 0,.slice [] 0 true,.slice [] 0 true]∧zd Tryz.prog 138=some [.bool false,.bool false]∧zd Tryz.prog 140=some [.int .i64 0,.int .i64 0]∧zd Tryz.prog 141=some [.int .i64 0,.int .i64 0,.int .i64 0,.int .i64 0]∧zd Tryz.prog 142=some [.int .i64 0,.int .i64 0,.int .i64 0,.int .i64 0,.int .i64 0,.int .i64 0,.int .i64 0,.int .i64 0]∧zd Tryz.prog 143=some [.int .i64 0,.int .i64 0]∧zd Tryz.prog 144=some [.int .i64 0,.int .i64 0,.int .i64 0,.int .i64 0]∧zd Tryz.prog 145=some [.bool false,.bool false,.bool false,.bool false,.bool false,.bool false]∧zd Tryz.prog 146=some (qB 64 (PV.int .i64 0):List PV)∧zd Tryz.prog 147=some (qB 384 (PV.int .i64 0):List PV)∧zd Tryz.prog 149=some (([.int .i64 0,.bool false,.bool false,.bool false,.bool false]:List PV)++(qB 13 (PV.int .i64 0):List PV)++([.bool false,.bool false,.bool false,.bool false,.bool false,.bool false]:List PV)++(qB 384 (PV.int .i64 0):List PV))∧zd Tryz.prog 152=some [.int .i64 0,.int .i64 0,.bool false,.bool false]∧zd Tryz.prog 158=some [.int .i64 0,.int .i64 0,.int .i64 0,.int .i64 0]∧zd Tryz.prog 165=some [.int .i64 0,.int .i64 0,.bool false,.bool false]∧zd Tryz.prog 191=some [.int .u64 0]∧zd Tryz.prog 193=some (([.int .i64 0,.int .i64 0,.int .i64 0,.int .i64 0,.bool false,.int .i64 0,.int .i64 0]:List PV)++(qB 128 (PV.int .u8 0):List PV)++([.bool false,.int .i64 0,.bool false,.int .i64 0]:List PV))∧zd Tryz.prog 194=some (([.int .i64 0,.int .i64 0,.int .i64 0,.int .i64 0,.bool false,.int .i64 0,.int .i64 0]:List PV)++(qB 128 (PV.int .u8 0):List PV)++([.bool false,.int .i64 0,.bool false,.int .i64 0]:List PV))∧zd Tryz.prog 197=some [.nilp]∧zd Tryz.prog 198=some [.nilp]∧zd Tryz.prog 201=some [.int .u32 0]∧zd Tryz.prog 204=some [.int .i64 0,.int .i64 0,.int .i64 0]∧zd Tryz.prog 206=some [.int .i64 0,.int .i64 0,.int .i64 0,.int .i64 0,.int .i64 0,.int .i64 0,.int .i64 0,.int .i64 0]∧zd Tryz.prog 213=some [.nilp]∧zd Tryz.prog 214=some [.nilp]:=by and_intros<;>kernel_rfl
theorem zc80:zd Tryz.prog 217=some [.int .i64 0,.int .i64 0,.int .i64 0,.int .i64 0,.int .i64 0,.int .i64 0,.int .i64 0,.int .i64 0]∧zd Tryz.prog 226=some [.nilp]∧zd Tryz.prog 245=some [.nilp]∧zd Tryz.prog 268=some [.int .u64 0]∧zd Tryz.prog 269=some [.nilp]∧zd Tryz.prog 270=some [.nilp]∧zd Tryz.prog 272=some [.slice [] 0 true,.int .i64 0,.int .i64 0]∧zd Tryz.prog 276=some [.int .i64 0,.int .i64 0,.int .i64 0,.int .i64 0,.int .i64 0,.int .i64 0,.int .i64 0,.int .i64 0,.nilp,.int .i64 0,.int .i64 0,.bool false,.bool false,.nilp,.bool false]∧zd Tryz.prog 279=some [.nilp]∧zd Tryz.prog 280=some [.slice [] 0 true]∧zd Tryz.prog 284=some [.slice [] 0 true,.int .i64 0]∧zd Tryz.prog 290=some [.nilp]∧zd Tryz.prog 313=some [.slice [] 0 true,.int .i64 0]∧zd Tryz.prog 315=some [.nilp,.int .i64 0]∧zd Tryz.prog 321=some [.nilp]∧zd Tryz.prog 329=some [.nilp]∧zd Tryz.prog 356=some [.nilp]∧zd Tryz.prog 360=some [.nilp]∧zd Tryz.prog 362=some [.int .i64 0]:=by and_intros<;>kernel_rfl
theorem mix:Tryz.prog.follows .mixedOrders=true:=by kernel_rfl
attribute [go_sem] sz0 sz40 sz80 zwz zwy zwx zww zwv zwu zc0 zc40 zc80 Tryz.underlying0 Tryz.underlying1 Tryz.underlying2 Tryz.underlying3 Tryz.underlying4 Tryz.underlying5 Tryz.underlying6 Tryz.underlying7 Tryz.underlying8 Tryz.underlying9 Tryz.underlying10 Tryz.underlying11 Tryz.underlying13 Tryz.underlying18 Tryz.underlying19 Tryz.underlying20 Tryz.underlying22 Tryz.underlying23 Tryz.underlying26 Tryz.underlying27 Tryz.underlying28 Tryz.underlying29 Tryz.underlying30 Tryz.underlying31 Tryz.underlying32 Tryz.underlying33 Tryz.underlying34 Tryz.underlying35
attribute [go_sem] Tryz.underlying36 Tryz.underlying37 Tryz.underlying38 Tryz.underlying39 Tryz.underlying41 Tryz.underlying42 Tryz.underlying43 Tryz.underlying44 Tryz.underlying45 Tryz.underlying46 Tryz.underlying47 Tryz.underlying48 Tryz.underlying49 Tryz.underlying50 Tryz.underlying53 Tryz.underlying54 Tryz.underlying55 Tryz.underlying56 Tryz.underlying57 Tryz.underlying58 Tryz.underlying59 Tryz.underlying60 Tryz.underlying61 Tryz.underlying65 Tryz.underlying67 Tryz.underlying69 Tryz.underlying71 Tryz.underlying72 Tryz.underlying74 Tryz.underlying75 Tryz.underlying76 Tryz.underlying77 Tryz.underlying79 Tryz.underlying80 Tryz.underlying81 Tryz.underlying84 Tryz.underlying86 Tryz.underlying87 Tryz.underlying90 Tryz.underlying93
attribute [go_sem] Tryz.underlying95 Tryz.underlying96 Tryz.underlying98 Tryz.underlying100 Tryz.underlying101 Tryz.underlying103 Tryz.underlying105 Tryz.underlying107 Tryz.underlying108 Tryz.underlying113 Tryz.underlying114 Tryz.underlying115 Tryz.underlying118 Tryz.underlying121 Tryz.underlying122 Tryz.underlying124 Tryz.underlying127 Tryz.underlying128 Tryz.underlying129 Tryz.underlying133 Tryz.underlying138 Tryz.underlying140 Tryz.underlying141 Tryz.underlying142 Tryz.underlying143 Tryz.underlying144 Tryz.underlying145 Tryz.underlying146 Tryz.underlying147 Tryz.underlying149 Tryz.underlying152 Tryz.underlying155 Tryz.underlying158 Tryz.underlying160 Tryz.underlying161 Tryz.underlying164 Tryz.underlying165 Tryz.underlying169 Tryz.underlying174 Tryz.underlying176
attribute [go_sem] Tryz.underlying177 Tryz.underlying178 Tryz.underlying185 Tryz.underlying188 Tryz.underlying191 Tryz.underlying192 Tryz.underlying193 Tryz.underlying194 Tryz.underlying195 Tryz.underlying197 Tryz.underlying198 Tryz.underlying199 Tryz.underlying201 Tryz.underlying202 Tryz.underlying203 Tryz.underlying204 Tryz.underlying206 Tryz.underlying208 Tryz.underlying211 Tryz.underlying213 Tryz.underlying214 Tryz.underlying215 Tryz.underlying216 Tryz.underlying217 Tryz.underlying218 Tryz.underlying226 Tryz.underlying230 Tryz.underlying239 Tryz.underlying245 Tryz.underlying259 Tryz.underlying268 Tryz.underlying269 Tryz.underlying270 Tryz.underlying272 Tryz.underlying276 Tryz.underlying277 Tryz.underlying279 Tryz.underlying280 Tryz.underlying284 Tryz.underlying285
attribute [go_sem] Tryz.underlying287 Tryz.underlying289 Tryz.underlying290 Tryz.underlying301 Tryz.underlying308 Tryz.underlying311 Tryz.underlying313 Tryz.underlying315 Tryz.underlying319 Tryz.underlying321 Tryz.underlying329 Tryz.underlying348 Tryz.underlying356 Tryz.underlying360 Tryz.underlying362 Tryz.underlying363 Tryz.underlying371 Tryz.underlying372 Tryz.eqGuardType27 Tryz.eqGuardType138 Tryz.eqGuardType141 Tryz.eqGuardType142 Tryz.eqGuardType143 Tryz.eqGuardType144 Tryz.eqGuardType145 Tryz.eqGuardType146 Tryz.eqGuardType147 Tryz.eqGuardType204
end Go.Proofs.YtpjlfoficnpfoaaGreatDoor.Ty
namespace Go.Proofs.YtpjlfoficnpfoaaGreatDoor.Sc
set_option linter.all false
open Pm Ty Go.RowKit
def bs(p:List UInt8):List PV:=p.map fun b=>.int .u8 (b.toNat:Int)
theorem zc(p:List UInt8):(bs p).length=p.length:=by simp[bs]
def byt(p:List UInt8)(k:Nat):Int:=((p.getD k 0).toNat:Int)
theorem zf4(p:List UInt8)(k:Nat):0≤byt p k∧byt p k≤255:=by unfold byt;have:=(p.getD k 0).toNat_lt;omega
theorem zK(p:List UInt8)(k:Nat)(h:k<p.length):(bs p)[k]? =some (.int .u8 (byt p k)):=by simp[bs,byt,h]
theorem zz(p q:List UInt8):bs (p++q)=bs p++bs q:=by simp[bs]
theorem zbd(p:List UInt8):∀ x∈bs p,Still x:=fun x hx=>by obtain⟨b,_,rfl⟩:=qI.1 hx;exact .int _ _
theorem zdw(p:List UInt8)(k:Nat)(h:k<p.length):p.take (k+1)=p.take k++[p.getD k 0]:=by rw[qH h];simp[h]
theorem zrq(n:Nat):bs (qB n 0)=qB n (.int .u8 0):=by simp[bs]
theorem zo(n:Nat)(p:List UInt8):∀ x∈bs p,Scoped n x:=fun x hx=>by obtain⟨b,_,rfl⟩:=qI.1 hx;exact .int _ _
theorem zl{n k:Nat}{xs:List PV}{f:Bool}(h:∀ x∈xs,Scoped n x):Scoped n (.slice xs k f):=.slice fun j x hx=>h x (qQ hx)
theorem zaB{n:Nat}{xs:List PV}(h:∀ x∈xs,Scoped n x):Scoped n (.agg xs):=.agg fun j x hx=>h x (qQ hx)
theorem _root_.Go.Proofs.YtpjlfoficnpfoaaGreatDoor.Pm.Fz.id'{n:Nat}{H:za}{x y:PV}(e:x=y)(h:Scoped n y):Fz n H x y:=e▸.id (e▸h)
theorem zvW(b:List UInt8)(i:Nat)(v:UInt8):(bs b).set i (.int .u8 (v.toNat:Int))=bs (b.set i v):=by simp[bs,List.map_set]
theorem zmW(k:IntKind):∀(p q:List UInt8),p.length=q.length→zeg (.int k) (bs p) (bs q)=some (p==q)
 | [],[],_=>rfl
 | a::p,b::q,h=>by
  have ih:=zmW k p q (by simpa using h);have e:((a.toNat:Int)==(b.toNat:Int))=(a==b):=by rw[qA];simp only[beq_iff_eq];exact⟨fun h=>UInt8.toNat_inj.1 om,fun h=>by rw[h]⟩
  show(match zdG (.int k) (.int .u8 (a.toNat:Int)) (.int .u8 (b.toNat:Int))with|some c=>(zeg (.int k) (bs p) (bs q)).map fun r=>c&&r|none=>none)=_;rw[ih];simp only[zdG,if_true,Option.map_some,e];rfl
 | [],_::_,h=>by simp at h
 | _::_,[],h=>by simp at h
theorem zpg(a b:Int): -(a.natAbs:Int)≤a.tdiv b∧a.tdiv b≤(a.natAbs:Int):=by
 have h:(a.tdiv b).natAbs≤a.natAbs:=by rw[Int.natAbs_tdiv];exact Nat.div_le_self _ _
 omega
theorem zjZ(a b:Int)(h: -9223372036854775807≤a∧a≤9223372036854775807):IntKind.i64.wrap (a.tdiv b)=a.tdiv b:=by have:=zpg a b;exact w64 _ om
theorem zkd(x y:Nat):(x:Int).tmod (y:Int)=((x%y:Nat):Int):=by rw[qM om];rfl
theorem zmG(a b:Nat):(a:Int).tdiv (b:Int)=((a / b:Nat):Int):=rfl
theorem za7(a b:Int)(h:0≤a):a.tdiv b=a / b:=Int.tdiv_eq_ediv_of_nonneg h
theorem zgP(a b:Int)(h:0≤a):a.tmod b=a%b:=qM h
theorem zgH(n:Int)(h:0≤n∧n≤18446744073709551615):IntKind.u64.wrap n=n:=by simp only[IntKind.wrap,IntKind.bits,IntKind.signed,Bool.false_and,Bool.false_eq_true,if_false];omega
theorem zwb(n:Int)(h: -18446744073709551616≤n∧n<0):IntKind.u64.wrap n=n+18446744073709551616:=by simp only[IntKind.wrap,IntKind.bits,IntKind.signed,Bool.false_and,Bool.false_eq_true,if_false];omega
def is(l:List Int):List PV:=l.map fun n=>.int .i64 n
theorem zar(l:List Int):(is l).length=l.length:=by simp[is]
def zk6(l:List Int)(k:Nat):Int:=l.getD k 0
theorem zqS(l:List Int)(i:Nat)(h:i<l.length):(is l)[i]? =some (.int .i64 (zk6 l i)):=by simp[is,zk6,h]
theorem ziv(p q:List Int):is (p++q)=is p++is q:=by simp[is]
theorem zcH(n:Nat)(p:List Int):∀ x∈is p,Scoped n x:=fun x hx=>by obtain⟨b,_,rfl⟩:=qI.1 hx;exact .int _ _
theorem zjy(b:List Int)(i:Nat)(v:Int):(is b).set i (.int .i64 v)=is (b.set i v):=by simp[is,List.map_set]
theorem zs0(p:List Int)(k:Nat):(is p).drop k=is (p.drop k):=by simp[is]
theorem zna(p:List Int)(k:Nat):(is p).take k=is (p.take k):=by simp[is]
theorem zmV(k:IntKind):∀(p q:List Int),p.length=q.length→zeg (.int k) (is p) (is q)=some (p==q)
 | [],[],_=>rfl
 | a::p,b::q,h=>by
  have ih:=zmV k p q (by simpa using h);show(match zdG (.int k) (.int .i64 a) (.int .i64 b)with|some c=>(zeg (.int k) (is p) (is q)).map fun r=>c&&r|none=>none)=_;rw[ih];simp only[zdG,if_true,Option.map_some];rfl
 | [],_::_,h=>by simp at h
 | _::_,[],h=>by simp at h
def fs(l:List Bool):List PV:=l.map fun b=>.bool b
theorem zvE(l:List Bool):(fs l).length=l.length:=by simp[fs]
def zdR(l:List Bool)(k:Nat):Bool:=l.getD k false
theorem zq3(l:List Bool)(i:Nat)(h:i<l.length):(fs l)[i]? =some (.bool (zdR l i)):=by simp[fs,zdR,h]
theorem zok(n:Nat)(p:List Bool):∀ x∈fs p,Scoped n x:=fun x hx=>by obtain⟨b,_,rfl⟩:=qI.1 hx;exact .bool _
theorem zua(a b:Nat):(a:Int).fdiv (b:Int)=((a / b:Nat):Int):=by rw[Int.fdiv_eq_ediv_of_nonneg _ om];rfl
theorem zeZ(k':IntKind)(V s:Nat)(h:s≤32):zaZ .shr .u32 (V:Int) k' (s:Int)=some (.int .u32 ((V / 2^s:Nat):Int)):=by simp only[zaZ,IntKind.bits];rw[if_neg om,show min (s:Int).toNat 32=s from om,show((2:Int)^s)=((2^s:Nat):Int) by simp,zua]
theorem zmO(k':IntKind)(V s:Nat)(h:s≤8):zaZ .shr .u8 (V:Int) k' (s:Int)=some (.int .u8 ((V / 2^s:Nat):Int)):=by simp only[zaZ,IntKind.bits];rw[if_neg om,show min (s:Int).toNat 8=s from om,show((2:Int)^s)=((2^s:Nat):Int) by simp,zua]
theorem zir(V:Nat):zaZ .and .u32 (V:Int) .u32 1=some (.int .u32 ((V%2:Nat):Int)):=by
 have h0:(BitVec.ofInt 32 (V:Int)&&& BitVec.ofInt 32 1).toNat=V%2:=by rw[BitVec.ofInt_natCast,BitVec.toNat_and,BitVec.toNat_ofNat,show(BitVec.ofInt 32 1).toNat=1 by decide,Nat.and_one_is_mod];omega
 have:(BitVec.ofInt IntKind.u32.bits (V:Int)&&& BitVec.ofInt IntKind.u32.bits 1).toNat=V%2:=h0;simp only[zaZ,this,if_true];rw[w32 _ om]
theorem zqn(V:Nat):zaZ .and .u8 (V:Int) .u8 1=some (.int .u8 ((V%2:Nat):Int)):=by
 have h0:(BitVec.ofInt 8 (V:Int)&&& BitVec.ofInt 8 1).toNat=V%2:=by rw[BitVec.ofInt_natCast,BitVec.toNat_and,BitVec.toNat_ofNat,show(BitVec.ofInt 8 1).toNat=1 by decide,Nat.and_one_is_mod];omega
 have:(BitVec.ofInt IntKind.u8.bits (V:Int)&&& BitVec.ofInt IntKind.u8.bits 1).toNat=V%2:=h0;simp only[zaZ,this,if_true];rw[w8 _ om]
theorem zsw(k':IntKind)(V s:Nat)(h:V * 2^s<256)(hs:s≤8):zaZ .shl .u8 (V:Int) k' (s:Int)=some (.int .u8 ((V * 2^s:Nat):Int)):=by simp only[zaZ,IntKind.bits];rw[if_neg om,show min (s:Int).toNat 8=s from om,show(V:Int) * (2:Int)^s=((V * 2^s:Nat):Int) by simp,w8 _ om]
theorem zve:∀ a<256,∀ s<8,a%2^(s+1)=0→(BitVec.ofNat 8 a|||BitVec.ofNat 8 (2^s)).toNat=a+2^s:=by decide+kernel
theorem zpZ(V s c:Nat)(h:V<256)(hs:s<8)(hz:V%2^(s+1)=0)(hc:c<2):zaZ .or .u8 (V:Int) .u8 ((c * 2^s:Nat):Int)=some (.int .u8 ((V+c * 2^s:Nat):Int)):=by
 have key0:(BitVec.ofInt 8 (V:Int)|||BitVec.ofInt 8 ((c * 2^s:Nat):Int)).toNat=V+c * 2^s:=by
  rw[BitVec.ofInt_natCast,BitVec.ofInt_natCast];rcases Nat.lt_or_ge c 1 with h0|h0
  ·have:c=0:=om;subst this;rw[Nat.zero_mul,BitVec.toNat_or,BitVec.toNat_ofNat,BitVec.toNat_ofNat];simp;omega
  ·have:c=1:=om;subst this;rw[Nat.one_mul];exact zve V h s hs hz
 have key:(BitVec.ofInt IntKind.u8.bits (V:Int)|||BitVec.ofInt IntKind.u8.bits ((c * 2^s:Nat):Int)).toNat=V+c * 2^s:=key0;have hlt:V+c * 2^s<256:=by have:=BitVec.isLt (BitVec.ofInt IntKind.u8.bits (V:Int)|||BitVec.ofInt IntKind.u8.bits ((c * 2^s:Nat):Int));rw[key]at this;exact this
 simp only[zaZ,key,if_true];rw[w8 _ om]
def mbs(n most:Int):Bool:=decide (16≤n)&&decide (n≤most)&&(n.tmod 16==0)
theorem zhy(n most:Int)(H:za):CallOk Tryz.prog 197 [.int .i64 n,.int .i64 most] H (.bool (mbs n most)) H:=by
 refine CallOk.go Tryz.func197 Tryz.ntmps197 Tryz.results197 ?_;refine PW.e ?_;(repeat refine PW.seq ?_);refine PW.rg rfl fun K hK=> ?_;simp(disch:=omega) only[go_sem,↓reduceIte,reduceCtorEq];(repeat'((first|refine zh ?_ ?_|refine ze ?_ ?_|refine zZ ?_ ?_|refine VOh_cond ?_ ?_|refine zY ?_ ?_|refine And.intro ?_ ?_)<;>intro h<;>(try simp only[nqb]at h)<;>simp(disch:=omega) only[go_sem,↓reduceIte,reduceCtorEq,h]));all_goals(refine hK _ _ ?_;clear hK K)
 all_goals(refine PW.ret ⟨_,rfl,.inl ⟨?_,rfl⟩⟩;simp_all[mbs,slot,qC];try omega)
theorem zvA(x y:Nat)(H:za):CallOk Tryz.prog 280 [.int .u64 (x:Int),.int .u64 (y:Int)] H (.int .u64 (qO x y:Int)) H:=by
 generalize hr:qO x y=r;refine CallOk.go Tryz.func280 Tryz.ntmps280 Tryz.results280 ?_;refine PW.e ?_;refine PW.l ?_;refine PL.at [0,1] (?_:PL _ _ _ [(0,.int .u64 (x:Int)),(1,.int .u64 (y:Int))] H _) rfl rfl;induction hm:y using qG generalizing x y with
 | _ n ih=>
  subst hm;refine PL.round ?_;refine PW.e ?_;refine PW.c (fun h=> ?_) (fun h=> ?_)
  ·have hy:y≠0:=by intro e;subst e;simp at h
   refine PW.skip ?_;refine PW.b ?_;(repeat refine PW.seq ?_);refine PW.draw mix kr fun K hK=> ?_;simp(disch:=omega) only[go_sem,↓reduceIte,reduceCtorEq,zkd];refine hK _ _ ?_;clear hK K;exact PL.at [0,1] (ih (x%y) (Nat.mod_lt _ om) y (x%y) (by rw[←hr,qJ x y,Nat.gcd_rec y x,qJ]) rfl) rfl rfl
  ·have hy:y=0:=by simpa using h
   subst hy;refine PW.exit ?_;refine PW.e ?_;exact PW.ret ⟨_,rfl,.inl ⟨by rw[←hr,Nat.gcd_zero_right];rfl,rfl⟩⟩
theorem zs4(x y:Nat)(H:za):CallOk Tryz.prog 220 [.int .u64 (x:Int),.int .u64 (y:Int)] H (.int .u64 (qO x y:Int)) H:=by
 generalize hr:qO x y=r;refine CallOk.go Tryz.func220 Tryz.ntmps220 Tryz.results220 ?_;refine PW.e ?_;refine PW.l ?_;refine PL.at [0,1] (?_:PL _ _ _ [(0,.int .u64 (x:Int)),(1,.int .u64 (y:Int))] H _) rfl rfl;induction hm:y using qG generalizing x y with
 | _ n ih=>
  subst hm;refine PL.round ?_;refine PW.e ?_;refine PW.c (fun h=> ?_) (fun h=> ?_)
  ·have hy:y≠0:=by intro e;subst e;simp at h
   refine PW.skip ?_;refine PW.b ?_;(repeat refine PW.seq ?_);refine PW.draw mix kr fun K hK=> ?_;simp(disch:=omega) only[go_sem,↓reduceIte,reduceCtorEq,zkd];refine hK _ _ ?_;clear hK K;exact PL.at [0,1] (ih (x%y) (Nat.mod_lt _ om) y (x%y) (by rw[←hr,qJ x y,Nat.gcd_rec y x,qJ]) rfl) rfl rfl
  ·have hy:y=0:=by simpa using h
   subst hy;refine PW.exit ?_;refine PW.e ?_;exact PW.ret ⟨_,rfl,.inl ⟨by rw[←hr,Nat.gcd_zero_right];rfl,rfl⟩⟩
theorem zsU(n:Int)(H:za)(hn: -9223372036854775808≤n∧n≤9223372036854775807):CallOk Tryz.prog 281 [.int .i64 n] H (.int .u64 (n.natAbs:Int)) H:=by
 refine CallOk.go Tryz.func281 Tryz.ntmps281 Tryz.results281 ?_;refine PW.e ?_;refine PW.e ?_;refine PW.c (fun h=> ?_) (fun h=> ?_)
 ·have h1:=of_decide_eq_true h;refine PW.f (fun K k=>by simp(disch:=omega) only[go_sem,↓reduceIte,reduceCtorEq,zwb];exact k) ?_;refine PW.ret ⟨_,rfl,.inl ⟨?_,rfl⟩⟩;have e:(n.natAbs:Int)=0 - (n+18446744073709551616)+18446744073709551616:=om;rw[e];rfl
 ·have h1:=of_decide_eq_false h;refine PW.skip ?_;refine PW.f (fun K k=>by simp(disch:=omega) only[go_sem,↓reduceIte,reduceCtorEq,zgH];exact k) ?_;refine PW.ret ⟨_,rfl,.inl ⟨?_,rfl⟩⟩;have e:(n.natAbs:Int)=n:=om;rw[e];rfl
theorem zqH(n:Int)(H:za)(hn: -9223372036854775808≤n∧n≤9223372036854775807):CallOk Tryz.prog 221 [.int .i64 n] H (.int .u64 (n.natAbs:Int)) H:=by
 refine CallOk.go Tryz.func221 Tryz.ntmps221 Tryz.results221 ?_;refine PW.e ?_;refine PW.e ?_;refine PW.c (fun h=> ?_) (fun h=> ?_)
 ·have h1:=of_decide_eq_true h;refine PW.f (fun K k=>by simp(disch:=omega) only[go_sem,↓reduceIte,reduceCtorEq,zgH];exact k) ?_;refine PW.ret ⟨_,rfl,.inl ⟨?_,rfl⟩⟩;have e:(n.natAbs:Int)=0 - (n+1)+1:=om;rw[e];rfl
 ·have h1:=of_decide_eq_false h;refine PW.skip ?_;refine PW.f (fun K k=>by simp(disch:=omega) only[go_sem,↓reduceIte,reduceCtorEq,zgH];exact k) ?_;refine PW.ret ⟨_,rfl,.inl ⟨?_,rfl⟩⟩;have e:(n.natAbs:Int)=n:=om;rw[e];rfl
def zdk(num den:Int):Bool:=decide (1≤den)&&decide (-9223372036854775808<num)&&(qO num.natAbs den.natAbs==1)
theorem zg9(num den:Int)(H:za)(hn: -9223372036854775808≤num∧num≤9223372036854775807)(hd: -9223372036854775808≤den∧den≤9223372036854775807):
  CallOk Tryz.prog 198 [.agg [.int .i64 num,.int .i64 den]] H (.bool (zdk num den)) H:=by
 generalize hr:zdk num den=r;refine CallOk.go Tryz.func198 Tryz.ntmps198 Tryz.results198 ?_;refine PW.e ?_;(repeat refine PW.seq ?_);refine PW.draw mix kr fun K hK=> ?_;simp(disch:=omega) only[go_sem,↓reduceIte,reduceCtorEq,zgH];(repeat'((first|refine zh ?_ ?_|refine ze ?_ ?_|refine zZ ?_ ?_|refine VOh_cond ?_ ?_|refine zY ?_ ?_|refine And.intro ?_ ?_)<;>intro h<;>(try simp only[nqb]at h)<;>simp(disch:=omega) only[go_sem,↓reduceIte,reduceCtorEq,zgH,h]))
 ·rename_i h1;have e:den=((den.natAbs:Nat):Int):=om;have hg:=zvA num.natAbs den.natAbs (H++[⟨26,0,[.int .i64 num,.int .i64 den]⟩]);rw[←e]at hg;refine VCy.call (zsU _ _ hn) rfl ?_;simp(disch:=omega) only[go_sem,↓reduceIte,reduceCtorEq,zgH];refine VCy.call (hg) rfl ?_;simp(disch:=omega) only[go_sem,↓reduceIte,reduceCtorEq];refine hK _ _ ?_;clear hK K;refine PW.ret ⟨_,rfl,Fin.base (.id' ?_ (.bool _))⟩;rw[←hr];simp[zdk,slot,qC,h,h1];rw[qA];simp;omega
 all_goals(refine hK _ _ ?_;clear hK K)
 all_goals(refine PW.ret ⟨_,rfl,Fin.base (.id' ?_ (.bool _))⟩;rw[←hr];simp_all[zdk,slot,qC];try omega)
theorem zeU(num den:Int)(H:za)(hn: -9223372036854775808≤num∧num≤9223372036854775807)(hd: -9223372036854775808≤den∧den≤9223372036854775807):
  CallOk Tryz.prog 136 [.agg [.int .i64 num,.int .i64 den]] H (.bool (zdk num den)) H:=by
 generalize hr:zdk num den=r;refine CallOk.go Tryz.func136 Tryz.ntmps136 Tryz.results136 ?_;refine PW.e ?_;(repeat refine PW.seq ?_);refine PW.draw mix kr fun K hK=> ?_;simp(disch:=omega) only[go_sem,↓reduceIte,reduceCtorEq,zgH];(repeat'((first|refine zh ?_ ?_|refine ze ?_ ?_|refine zZ ?_ ?_|refine VOh_cond ?_ ?_|refine zY ?_ ?_|refine And.intro ?_ ?_)<;>intro h<;>(try simp only[nqb]at h)<;>simp(disch:=omega) only[go_sem,↓reduceIte,reduceCtorEq,zgH,h]))
 ·rename_i h1;have e:den=((den.natAbs:Nat):Int):=om;have hg:=zs4 num.natAbs den.natAbs (H++[⟨26,0,[.int .i64 num,.int .i64 den]⟩]);rw[←e]at hg;refine VCy.call (zqH _ _ hn) rfl ?_;simp(disch:=omega) only[go_sem,↓reduceIte,reduceCtorEq,zgH];refine VCy.call (hg) rfl ?_;simp(disch:=omega) only[go_sem,↓reduceIte,reduceCtorEq];refine hK _ _ ?_;clear hK K;refine PW.ret ⟨_,rfl,Fin.base (.id' ?_ (.bool _))⟩;rw[←hr];have h2: -9223372036854775808<num:=om;simp[zdk,slot,qC,h,h1,h2];rw[qA];simp;omega
 all_goals(refine hK _ _ ?_;clear hK K)
 all_goals(refine PW.ret ⟨_,rfl,Fin.base (.id' ?_ (.bool _))⟩;rw[←hr];clear hr)
 ·have h2:¬ -9223372036854775808<num:=om;simp[zdk,slot,qC,h2]
 ·simp_all[zdk,slot,qC];try omega
structure Sq where
 w:Int
 h:Int
 num:Int
 den:Int
 il:Bool
 br:Int
 bf:Int
 ia:List UInt8
 ie:List UInt8
def sqc(s:Sq):List PV:=.int .i64 s.w:: .int .i64 s.h:: .int .i64 s.num:: .int .i64 s.den:: .bool s.il:: .int .i64 s.br:: .int .i64 s.bf::(bs s.ia++bs s.ie)
def zfP(n:Int):Prop:= -9223372036854775808≤n∧n≤9223372036854775807
structure SqOk(s:Sq):Prop where
 w: -9223372036854775808≤s.w∧s.w≤9223372036854775807
 h: -9223372036854775808≤s.h∧s.h≤9223372036854775807
 num: -9223372036854775808≤s.num∧s.num≤9223372036854775807
 den: -9223372036854775808≤s.den∧s.den≤9223372036854775807
 br: -9223372036854775808≤s.br∧s.br≤9223372036854775807
 bf: -9223372036854775808≤s.bf∧s.bf≤9223372036854775807
 ia:s.ia.length=64
 ie:s.ie.length=64
theorem zV(n:Nat)(s:Sq):∀ x∈sqc s,Scoped n x:=fun x hx=>by simp only[sqc,List.mem_cons,List.mem_append]at hx;rcases hx with rfl|rfl|rfl|rfl|rfl|rfl|rfl|hx|hx;all_goals first|exact .int _ _|exact .bool _|exact zo n _ x hx
theorem zeR(p q:List UInt8)(h:p.length=64):(bs p++bs q).take 64=bs p:=by rw[List.take_append_of_le_length (by rw[zc];omega),qF (by rw[zc];omega)]
theorem zeQ(p q:List UInt8)(h:p.length=64):(bs p++bs q).drop 64=bs q:=by rw[List.drop_append_of_le_length (by rw[zc];omega),qN (by rw[zc];omega),List.nil_append]
theorem zei(q:List UInt8)(h:q.length=64):(bs q).take 64=bs q:=qF (by rw[zc];omega)
theorem zfx(p q:List UInt8)(h:p.length=64)(h':q.length=64):(bs p++bs q).take 128=bs p++bs q:=qF (by rw[qE,zc,zc];omega)
def zkX(m:List UInt8):Bool:=m.all fun b=>decide (8≤b.toNat)
theorem zm3(m:List UInt8)(k:Nat)(hk:k≤m.length):(m.drop k).all (fun b=>decide (8≤b.toNat))=if k<m.length then decide (8≤byt m k)&&(m.drop (k+1)).all (fun b=>decide (8≤b.toNat))else true:=by
 split
 ·rename_i h;rw[List.drop_eq_getElem_cons h,List.all_cons];congr 1;simp[byt,h];omega
 ·rw[qN om];rfl
theorem ztY(m:List UInt8)(H:za)(hl:m.length=64):CallOk Tryz.prog 127 [.agg (bs m)] H (.bool (zkX m)) H:=by
 refine CallOk.go Tryz.func127 Tryz.ntmps127 Tryz.results127 ?_;have hall:(bs m).all PV.cell=true:=by simp[bs,PV.cell]
 refine PW.g hall ?_;refine PW.f (fun K k=>by simp(disch:=omega) only[go_sem,↓reduceIte,reduceCtorEq,zc,zei];exact k) ?_;refine PW.l ?_;suffices hloop:∀(k:Nat),k≤64→zkX m=(m.drop k).all (fun b=>decide (8≤b.toNat))→PL Tryz.prog _ _ [(5,.agg (bs m)),(6,.int .i64 (k:Int))] (H++[⟨27,0,bs m⟩]) _ by exact PL.at [5,6] (hloop 0 om (by simp[zkX])) rfl rfl
 intro k hk heq;induction hm:64 - k using qG generalizing k with
 | _ n ih=>
  rw[zm3 m k om]at heq;refine PL.round ?_;refine PW.e ?_;refine PW.c (fun h=> ?_) (fun h=> ?_)
  ·have h4:k<64:=ot h;rw[if_pos om]at heq;refine PW.skip ?_;refine PW.b ?_;refine PW.f (fun K k=>by simp(disch:=omega) only[go_sem,↓reduceIte,reduceCtorEq,zK];exact k) ?_;refine PW.e ?_;refine PW.c (fun h=> ?_) (fun h=> ?_)
   ·have h5:=of_decide_eq_true h;refine PW.e ?_;refine PW.ret ⟨_,rfl,Fin.base (.id' ?_ (.bool _))⟩;rw[heq];simp[slot,qC];omega
   ·have h5:=of_decide_eq_false h;refine PW.skip ?_;refine PW.e ?_;refine PL.at [5,6] (ih (64 - (k+1)) om (k+1) om ?_ rfl) rfl rfl;rw[heq];simp;omega
  ·have h4:¬ k<64:=ofF h;rw[if_neg om]at heq;refine PW.exit ?_;refine PW.e ?_;refine PW.ret ⟨_,rfl,Fin.base (.id' ?_ (.bool _))⟩;rw[heq];rfl
theorem zqt(m:List UInt8)(H:za)(hl:m.length=64):CallOk Tryz.prog 137 [.agg (bs m)] H (.bool (zkX m)) H:=by
 refine CallOk.go Tryz.func137 Tryz.ntmps137 Tryz.results137 ?_;have hall:(bs m).all PV.cell=true:=by simp[bs,PV.cell]
 refine PW.g hall ?_;refine PW.e ?_;refine PW.l ?_;suffices hloop:∀(k:Nat),k≤64→zkX m=(m.drop k).all (fun b=>decide (8≤b.toNat))→PL Tryz.prog _ _ [(1,.ptr H.length 0 0),(3,.int .i64 (k:Int))] (H++[⟨27,0,bs m⟩]) _ by exact PL.at [1,3] (hloop 0 om (by simp[zkX])) rfl rfl
 intro k hk heq;induction hm:64 - k using qG generalizing k with
 | _ n ih=>
  rw[zm3 m k om]at heq;refine PL.round ?_;refine PW.e ?_;refine PW.c (fun h=> ?_) (fun h=> ?_)
  ·have h4:k<64:=ot h;rw[if_pos om]at heq;refine PW.skip ?_;refine PW.b ?_;refine PW.f (fun K k=>by simp(disch:=omega) only[go_sem,↓reduceIte,reduceCtorEq,zK];exact k) ?_;refine PW.c (fun h=> ?_) (fun h=> ?_)
   ·have h5:=of_decide_eq_true h;refine PW.e ?_;refine PW.ret ⟨_,rfl,Fin.base (.id' ?_ (.bool _))⟩;rw[heq];simp[slot,qC];omega
   ·have h5:=of_decide_eq_false h;refine PW.skip ?_;refine PW.e ?_;refine PL.at [1,3] (ih (64 - (k+1)) om (k+1) om ?_ rfl) rfl rfl;rw[heq];simp;omega
  ·have h4:¬ k<64:=ofF h;rw[if_neg om]at heq;refine PW.exit ?_;refine PW.e ?_;refine PW.ret ⟨_,rfl,Fin.base (.id' ?_ (.bool _))⟩;rw[heq];rfl
def vsz(s:Sq):Bool:=mbs s.w 64&&mbs s.h 64&&(!s.il||(s.h.tmod 32==0))
def vrt(s:Sq):Bool:=zdk s.num s.den&&decide (1≤s.num)&&decide (s.num≤1048576)&&decide (s.den≤65536)
def vbr(s:Sq):Bool:=decide (1≤s.br)&&decide (s.br≤16777216)&&decide (1≤s.bf)&&decide (s.bf≤8388608)
def vbu(s:Sq):Bool:=decide (3 * s.den * s.br+32 * s.num≤2 * s.num * s.bf)
def za6(s:Sq):Bool:=vsz s&&(vrt s&&(vbr s&&(vbu s&&(zkX s.ia&&zkX s.ie))))
theorem zfE{num den:Int}(h:zdk num den=true):1≤den:=by simp[zdk]at h;exact h.1.1
theorem zgq{a b:Int}{A B:Int}(ha:0≤a)(hA:a≤A)(hb:0≤b)(hB:b≤B):0≤a * b∧a * b≤A * B:=⟨Int.mul_nonneg ha hb,Int.mul_le_mul hA hB hb (Int.le_trans ha hA)⟩
theorem zgn(s:Sq)(H:za)(hs:SqOk s):CallOk Tryz.prog 120 [.agg (sqc s)] H (.bool (za6 s)) H:=by
 obtain⟨hw,hh,hnum,hden,hbr,hbf,hia,hie⟩:=hs;have hall:(bs s.ia++bs s.ie).all PV.cell=true:=by simp[bs,PV.cell]
 refine CallOk.go Tryz.func120 Tryz.ntmps120 Tryz.results120 ?_;refine PW.f (fun K k=>by simp(disch:=omega) only[go_sem,↓reduceIte,reduceCtorEq,sqc,hall];exact k) ?_;refine PW.seq (PW.seq (PW.rgv [1] 22 (.bool (!vsz s)) rfl ?_ ?_))
 ·simp(disch:=omega) only[go_sem,↓reduceIte,reduceCtorEq];(repeat'(first|((first|refine zh ?_ ?_|refine ze ?_ ?_|refine zZ ?_ ?_|refine VOh_cond ?_ ?_|refine zY ?_ ?_|refine And.intro ?_ ?_)<;>intro h<;>(try simp only[nqb]at h)<;>simp(disch:=omega) only[go_sem,↓reduceIte,reduceCtorEq,h])|((first|refine VCx.call (zhy _ _ _) rfl ?_|refine VCy.call (zhy _ _ _) rfl ?_|refine VCz.call (fun _=>zhy _ _ _) rfl ?_|refine VCk.call (fun _ _=>zhy _ _ _) rfl ?_|refine VCj.now (zhy _ _ _) rfl ?_);simp(disch:=omega) only[go_sem,↓reduceIte,reduceCtorEq])));all_goals(simp_all[vsz,slot,qC]<;>first|rfl|omega|(rw[qA];simp;done)|(rw[qA];simp;omega))
 refine PW.c (fun h=> ?_) (fun h=> ?_)
 ·have h1:vsz s=false:=by simpa using h
  refine PW.e ?_;exact PW.ret ⟨_,rfl,Fin.base (.id' (by simp[za6,h1,slot,qC]) (.bool _))⟩
 have h1:vsz s=true:=by simpa using h
 refine PW.skip (PW.seq (PW.seq (PW.rgv [1] 44 (.bool (!vrt s)) rfl ?_ ?_)))
 ·simp(disch:=omega) only[go_sem,↓reduceIte,reduceCtorEq];(repeat'(first|((first|refine zh ?_ ?_|refine ze ?_ ?_|refine zZ ?_ ?_|refine VOh_cond ?_ ?_|refine zY ?_ ?_|refine And.intro ?_ ?_)<;>intro h<;>(try simp only[nqb]at h)<;>simp(disch:=omega) only[go_sem,↓reduceIte,reduceCtorEq,h])|((first|refine VCx.call (zg9 _ _ _ hnum hden) rfl ?_|refine VCy.call (zg9 _ _ _ hnum hden) rfl ?_|refine VCz.call (fun _=>zg9 _ _ _ hnum hden) rfl ?_|refine VCk.call (fun _ _=>zg9 _ _ _ hnum hden) rfl ?_|refine VCj.now (zg9 _ _ _ hnum hden) rfl ?_);simp(disch:=omega) only[go_sem,↓reduceIte,reduceCtorEq])));all_goals(simp_all[vrt,slot,qC]<;>first|rfl|omega|(rw[qA];simp;done)|(rw[qA];simp;omega))
 refine PW.c (fun h=> ?_) (fun h=> ?_)
 ·have h2:vrt s=false:=by simpa using h
  refine PW.e ?_;exact PW.ret ⟨_,rfl,Fin.base (.id' (by simp[za6,h1,h2,slot,qC]) (.bool _))⟩
 have h2:vrt s=true:=by simpa using h
 refine PW.skip (PW.seq (PW.seq (PW.rgv [1] 62 (.bool (!vbr s)) rfl ?_ ?_)))
 ·simp(disch:=omega) only[go_sem,↓reduceIte,reduceCtorEq];(repeat'((first|refine zh ?_ ?_|refine ze ?_ ?_|refine zZ ?_ ?_|refine VOh_cond ?_ ?_|refine zY ?_ ?_|refine And.intro ?_ ?_)<;>intro h<;>(try simp only[nqb]at h)<;>simp(disch:=omega) only[go_sem,↓reduceIte,reduceCtorEq,h]));all_goals(simp_all[vbr,slot,qC]<;>first|rfl|omega|(rw[qA];simp;done)|(rw[qA];simp;omega))
 refine PW.c (fun h=> ?_) (fun h=> ?_)
 ·have h3:vbr s=false:=by simpa using h
  refine PW.e ?_;exact PW.ret ⟨_,rfl,Fin.base (.id' (by simp[za6,h1,h2,h3,slot,qC]) (.bool _))⟩
 have h3:vbr s=true:=by simpa using h
 have h2':=h2;have h3':=h3;simp only[vrt,vbr,qK,decide_eq_true_eq]at h2' h3';have hdp:=zfE h2'.1.1.1;have hb1:=zgq (a:=2 * s.num) (b:=s.bf) (A:=2097152) (B:=8388608) om om om om;have hb2:=zgq (a:=3 * s.den) (b:=s.br) (A:=196608) (B:=16777216) om om om om;refine PW.skip ?_;refine PW.e ?_;refine PW.c (fun h=> ?_) (fun h=> ?_)
 ·have h4:vbu s=false:=by have:=of_decide_eq_true h;simp[vbu];omega
  refine PW.e ?_;exact PW.ret ⟨_,rfl,Fin.base (.id' (by simp[za6,h1,h2,h3,h4,slot,qC]) (.bool _))⟩
 have h4:vbu s=true:=by have:=of_decide_eq_false h;simp[vbu];omega
 refine PW.skip ?_;(repeat refine PW.seq ?_);refine PW.rg rfl fun K hK=> ?_;simp(disch:=omega) only[go_sem,↓reduceIte,reduceCtorEq,zeR,zeQ,zei,qE,zc];(repeat'(first|((first|refine zh ?_ ?_|refine And.intro ?_ ?_)<;>intro h<;>(try simp only[nqb]at h)<;>simp(disch:=omega) only[go_sem,↓reduceIte,reduceCtorEq,zeR,zeQ,zei,qE,zc,h])|((first|refine VCx.call (ztY _ _ hia) rfl ?_|refine VCx.call (ztY _ _ hie) rfl ?_);simp(disch:=omega) only[go_sem,↓reduceIte,reduceCtorEq,zeR,zeQ,zei,qE,zc])));all_goals(refine hK _ _ ?_;clear hK K)
 all_goals exact PW.ret ⟨_,rfl,Fin.base (.id' (by simp_all[za6,slot,qC]) (.bool _))⟩
theorem zeH(s:Sq)(H:za)(hs:SqOk s):CallOk Tryz.prog 74 [.agg (sqc s)] H (.bool (za6 s)) H:=by
 obtain⟨hw,hh,hnum,hden,hbr,hbf,hia,hie⟩:=hs;have hall:(bs s.ia++bs s.ie).all PV.cell=true:=by simp[bs,PV.cell]
 refine CallOk.go Tryz.func74 Tryz.ntmps74 Tryz.results74 ?_;refine PW.f (fun K k=>by simp(disch:=omega) only[go_sem,↓reduceIte,reduceCtorEq,sqc,hall];exact k) ?_;refine PW.seq (PW.seq (PW.rgv [1] 42 (.bool (!vsz s)) rfl ?_ ?_))
 ·simp(disch:=omega) only[go_sem,↓reduceIte,reduceCtorEq];(repeat'((first|refine zh ?_ ?_|refine ze ?_ ?_|refine zZ ?_ ?_|refine VOh_cond ?_ ?_|refine zY ?_ ?_|refine And.intro ?_ ?_)<;>intro h<;>(try simp only[nqb]at h)<;>simp(disch:=omega) only[go_sem,↓reduceIte,reduceCtorEq,h]));all_goals(simp_all[vsz,mbs,slot,qC]<;>first|rfl|omega|(rw[qA];simp;done)|(rw[qA];simp;omega))
 refine PW.c (fun h=> ?_) (fun h=> ?_)
 ·have h1:vsz s=false:=by simpa using h
  refine PW.e ?_;exact PW.ret ⟨_,rfl,Fin.base (.id' (by simp[za6,h1,slot,qC]) (.bool _))⟩
 have h1:vsz s=true:=by simpa using h
 refine PW.skip (PW.seq (PW.seq (PW.rgv [1] 64 (.bool (!vrt s)) rfl ?_ ?_)))
 ·simp(disch:=omega) only[go_sem,↓reduceIte,reduceCtorEq];(repeat'(first|((first|refine zh ?_ ?_|refine ze ?_ ?_|refine zZ ?_ ?_|refine VOh_cond ?_ ?_|refine zY ?_ ?_|refine And.intro ?_ ?_)<;>intro h<;>(try simp only[nqb]at h)<;>simp(disch:=omega) only[go_sem,↓reduceIte,reduceCtorEq,h])|((first|refine VCx.call (zeU _ _ _ hnum hden) rfl ?_|refine VCy.call (zeU _ _ _ hnum hden) rfl ?_|refine VCz.call (fun _=>zeU _ _ _ hnum hden) rfl ?_|refine VCk.call (fun _ _=>zeU _ _ _ hnum hden) rfl ?_|refine VCj.now (zeU _ _ _ hnum hden) rfl ?_);simp(disch:=omega) only[go_sem,↓reduceIte,reduceCtorEq])));all_goals(simp_all[vrt,slot,qC]<;>first|rfl|omega|(rw[qA];simp;done)|(rw[qA];simp;omega))
 refine PW.c (fun h=> ?_) (fun h=> ?_)
 ·have h2:vrt s=false:=by simpa using h
  refine PW.e ?_;exact PW.ret ⟨_,rfl,Fin.base (.id' (by simp[za6,h1,h2,slot,qC]) (.bool _))⟩
 have h2:vrt s=true:=by simpa using h
 refine PW.skip (PW.seq (PW.seq (PW.rgv [1] 82 (.bool (!vbr s)) rfl ?_ ?_)))
 ·simp(disch:=omega) only[go_sem,↓reduceIte,reduceCtorEq];(repeat'((first|refine zh ?_ ?_|refine ze ?_ ?_|refine zZ ?_ ?_|refine VOh_cond ?_ ?_|refine zY ?_ ?_|refine And.intro ?_ ?_)<;>intro h<;>(try simp only[nqb]at h)<;>simp(disch:=omega) only[go_sem,↓reduceIte,reduceCtorEq,h]));all_goals(simp_all[vbr,slot,qC]<;>first|rfl|omega|(rw[qA];simp;done)|(rw[qA];simp;omega))
 refine PW.c (fun h=> ?_) (fun h=> ?_)
 ·have h3:vbr s=false:=by simpa using h
  refine PW.e ?_;exact PW.ret ⟨_,rfl,Fin.base (.id' (by simp[za6,h1,h2,h3,slot,qC]) (.bool _))⟩
 have h3:vbr s=true:=by simpa using h
 have h2':=h2;have h3':=h3;simp only[vrt,vbr,qK,decide_eq_true_eq]at h2' h3';have hdp:=zfE h2'.1.1.1;have hb1:=zgq (a:=2 * s.num) (b:=s.bf) (A:=2097152) (B:=8388608) om om om om;have hb2:=zgq (a:=3 * s.den) (b:=s.br) (A:=196608) (B:=16777216) om om om om;refine PW.skip ?_;refine PW.e ?_;refine PW.c (fun h=> ?_) (fun h=> ?_)
 ·have h4:vbu s=false:=by have:=of_decide_eq_true h;simp[vbu];omega
  refine PW.e ?_;exact PW.ret ⟨_,rfl,Fin.base (.id' (by simp[za6,h1,h2,h3,h4,slot,qC]) (.bool _))⟩
 have h4:vbu s=true:=by have:=of_decide_eq_false h;simp[vbu];omega
 refine PW.skip ?_;(repeat refine PW.seq ?_);refine PW.rg rfl fun K hK=> ?_;simp(disch:=omega) only[go_sem,↓reduceIte,reduceCtorEq,zeR,zeQ,zei,qE,zc];(repeat'(first|((first|refine zh ?_ ?_|refine And.intro ?_ ?_)<;>intro h<;>(try simp only[nqb]at h)<;>simp(disch:=omega) only[go_sem,↓reduceIte,reduceCtorEq,zeR,zeQ,zei,qE,zc,h])|((first|refine VCx.call (zqt _ _ hia) rfl ?_|refine VCx.call (zqt _ _ hie) rfl ?_);simp(disch:=omega) only[go_sem,↓reduceIte,reduceCtorEq,zeR,zeQ,zei,qE,zc])));all_goals(refine hK _ _ ?_;clear hK K)
 all_goals exact PW.ret ⟨_,rfl,Fin.base (.id' (by simp_all[za6,slot,qC]) (.bool _))⟩
structure Pi where
 ty:Int
 st:Int
 od:Int
 tf:Bool
 rp:Bool
 al:Bool
def pic(h:Pi):List PV:=[.int .i64 h.ty,.int .i64 h.st,.int .i64 h.od,.bool h.tf,.bool h.rp,.bool h.al]
def zf1(h:Pi):Bool:=decide (0≤h.od)&&decide (h.od≤1023)&&decide (1≤h.ty)&&decide (h.ty≤3)&&decide (1≤h.st)&&decide (h.st≤3)
theorem zjJ(h:Pi)(H:za):CallOk Tryz.prog 121 [.agg (pic h)] H (.bool (zf1 h)) H:=by obtain⟨ty,st,od,tf,rp,al⟩:=h;refine CallOk.body (F0:=[(0,.agg (pic ⟨ty,st,od,tf,rp,al⟩))]) Tryz.func121 rfl Tryz.ntmps121 Tryz.results121 rfl kr rfl ?_;(repeat'(first|refine PW.seq ?_|refine PW.skip ?_|refine PW.block ?_|((first|refine PW.rg rfl fun K hK=> ?_|refine PW.draw mix kr fun K hK=> ?_);simp(disch:=omega) only[go_sem,↓reduceIte,reduceCtorEq,pic])|((first|refine zh ?_ ?_|refine ze ?_ ?_|refine And.intro ?_ ?_)<;>intro h<;>(try simp only[nqb]at h)<;>simp(disch:=omega) only[go_sem,↓reduceIte,reduceCtorEq,pic,h])|(refine hK _ _ ?_;clear hK K)|(refine PW.cond (t:=_) rfl (fun h=> ?_) (fun h=> ?_)<;>(try(cases h;done))<;>(try simp only[nqb]at h))));all_goals((refine PW.ret ⟨_,rfl,?_⟩;first|refine .inl ⟨?_,rfl⟩|refine Fin.base (.id' ?_ (.bool _))|refine Fin.base (.id' ?_ (.int _ _)));(simp_all[zf1,slot,qC]<;>first|rfl|omega|(rw[qA];simp;done)|(rw[qA];simp;omega)))
theorem zhS(h:Pi)(H:za):CallOk Tryz.prog 75 [.agg (pic h)] H (.bool (zf1 h)) H:=by obtain⟨ty,st,od,tf,rp,al⟩:=h;refine CallOk.body (F0:=[(0,.agg (pic ⟨ty,st,od,tf,rp,al⟩))]) Tryz.func75 rfl Tryz.ntmps75 Tryz.results75 rfl kr rfl ?_;(repeat'(first|refine PW.seq ?_|refine PW.skip ?_|refine PW.block ?_|((first|refine PW.rg rfl fun K hK=> ?_|refine PW.draw mix kr fun K hK=> ?_);simp(disch:=omega) only[go_sem,↓reduceIte,reduceCtorEq,pic])|((first|refine zh ?_ ?_|refine ze ?_ ?_|refine And.intro ?_ ?_)<;>intro h<;>(try simp only[nqb]at h)<;>simp(disch:=omega) only[go_sem,↓reduceIte,reduceCtorEq,pic,h])|(refine hK _ _ ?_;clear hK K)|(refine PW.cond (t:=_) rfl (fun h=> ?_) (fun h=> ?_)<;>(try(cases h;done))<;>(try simp only[nqb]at h))));all_goals((refine PW.ret ⟨_,rfl,?_⟩;first|refine .inl ⟨?_,rfl⟩|refine Fin.base (.id' ?_ (.bool _))|refine Fin.base (.id' ?_ (.int _ _)));(simp_all[zf1,slot,qC]<;>first|rfl|omega|(rw[qA];simp;done)|(rw[qA];simp;omega)))
def zH(s:Sq)(p:Pi):Bool:=za6 s&&zf1 p&&(s.il||((p.st==3)&&p.tf&& !p.rp))
theorem zd2(s:Sq)(p:Pi)(H:za)(hs:SqOk s):CallOk Tryz.prog 62 [.agg (sqc s),.agg (pic p)] H (.bool (zH s p)) H:=by
 have hall:(bs s.ia++bs s.ie).all PV.cell=true:=by simp[bs,PV.cell]
 have hlen:(bs s.ia++bs s.ie).length=128:=by simp[zc,hs.ia,hs.ie]
 have htk:=zfx s.ia s.ie hs.ia hs.ie;refine CallOk.go Tryz.func62 Tryz.ntmps62 Tryz.results62 ?_;(repeat'(first|refine PW.seq ?_|refine PW.skip ?_|refine PW.block ?_|((first|refine PW.rg rfl fun K hK=> ?_|refine PW.draw mix kr fun K hK=> ?_);simp(disch:=omega) only[go_sem,↓reduceIte,reduceCtorEq,sqc,pic,hall,hlen,htk])|((first|refine zh ?_ ?_|refine ze ?_ ?_|refine And.intro ?_ ?_)<;>intro h<;>(try simp only[nqb]at h)<;>simp(disch:=omega) only[go_sem,↓reduceIte,reduceCtorEq,sqc,pic,hall,hlen,htk,h])|((first|refine VCx.call (zgn s _ hs) rfl ?_|refine VCx.call (zjJ p _) rfl ?_|refine VCy.call (zgn s _ hs) rfl ?_|refine VCy.call (zjJ p _) rfl ?_);simp(disch:=omega) only[go_sem,↓reduceIte,reduceCtorEq,sqc,pic,hall,hlen,htk])|(refine hK _ _ ?_;clear hK K)|(refine PW.cond (t:=_) rfl (fun h=> ?_) (fun h=> ?_)<;>(try(cases h;done))<;>(try simp only[nqb]at h))));all_goals((refine PW.ret ⟨_,rfl,?_⟩;first|refine .inl ⟨?_,rfl⟩|refine Fin.base (.id' ?_ (.bool _))|refine Fin.base (.id' ?_ (.int _ _)));(simp_all[zH,slot,qC]<;>first|rfl|omega|(rw[qA];simp;done)|(rw[qA];simp;omega)))
theorem zcZ(s:Sq)(p:Pi)(H:za)(hs:SqOk s):CallOk Tryz.prog 36 [.agg (sqc s),.agg (pic p)] H (.bool (zH s p)) H:=by
 have hall:(bs s.ia++bs s.ie).all PV.cell=true:=by simp[bs,PV.cell]
 have hlen:(bs s.ia++bs s.ie).length=128:=by simp[zc,hs.ia,hs.ie]
 have htk:=zfx s.ia s.ie hs.ia hs.ie;refine CallOk.go Tryz.func36 Tryz.ntmps36 Tryz.results36 ?_;(repeat'(first|refine PW.seq ?_|refine PW.skip ?_|refine PW.block ?_|((first|refine PW.rg rfl fun K hK=> ?_|refine PW.draw mix kr fun K hK=> ?_);simp(disch:=omega) only[go_sem,↓reduceIte,reduceCtorEq,sqc,pic,hall,hlen,htk])|((first|refine zh ?_ ?_|refine ze ?_ ?_|refine And.intro ?_ ?_)<;>intro h<;>(try simp only[nqb]at h)<;>simp(disch:=omega) only[go_sem,↓reduceIte,reduceCtorEq,sqc,pic,hall,hlen,htk,h])|((first|refine VCx.call (zeH s _ hs) rfl ?_|refine VCx.call (zhS p _) rfl ?_|refine VCy.call (zeH s _ hs) rfl ?_|refine VCy.call (zhS p _) rfl ?_);simp(disch:=omega) only[go_sem,↓reduceIte,reduceCtorEq,sqc,pic,hall,hlen,htk])|(refine hK _ _ ?_;clear hK K)|(refine PW.cond (t:=_) rfl (fun h=> ?_) (fun h=> ?_)<;>(try(cases h;done))<;>(try simp only[nqb]at h))));all_goals((refine PW.ret ⟨_,rfl,?_⟩;first|refine .inl ⟨?_,rfl⟩|refine Fin.base (.id' ?_ (.bool _))|refine Fin.base (.id' ?_ (.int _ _)));(simp_all[zH,slot,qC]<;>first|rfl|omega|(rw[qA];simp;done)|(rw[qA];simp;omega)))
theorem zoK{s:Sq}(h:za6 s=true):16≤s.h∧s.h≤64∧16≤s.w∧s.w≤64:=by simp[za6,vsz,mbs]at h;omega
theorem zb8{s:Sq}{p:Pi}(hv:zH s p=true):16≤s.h∧s.h≤64∧16≤s.w∧s.w≤64:=by simp only[zH,qK]at hv;exact zoK hv.1.1
def hgt(s:Sq)(p:Pi):Int:=if p.st=3 then s.h else s.h.tdiv 2
theorem zqW(s:Sq)(p:Pi)(H:za)(hs:SqOk s)(hv:0≤s.h):CallOk Tryz.prog 106 [.agg (sqc s),.agg (pic p)] H (.int .i64 (hgt s p)) H:=by
 have hall:(bs s.ia++bs s.ie).all PV.cell=true:=by simp[bs,PV.cell]
 have hlen:(bs s.ia++bs s.ie).length=128:=by simp[zc,hs.ia,hs.ie]
 have hh:=hs.h;refine CallOk.go Tryz.func106 Tryz.ntmps106 Tryz.results106 ?_;(repeat'(first|refine PW.seq ?_|refine PW.skip ?_|refine PW.block ?_|((first|refine PW.rg rfl fun K hK=> ?_|refine PW.draw mix kr fun K hK=> ?_);simp(disch:=omega) only[go_sem,↓reduceIte,reduceCtorEq,sqc,pic,hall,hlen,zjZ])|((first|refine zh ?_ ?_|refine ze ?_ ?_|refine And.intro ?_ ?_)<;>intro h<;>(try simp only[nqb]at h)<;>simp(disch:=omega) only[go_sem,↓reduceIte,reduceCtorEq,sqc,pic,hall,hlen,zjZ,h])|(refine hK _ _ ?_;clear hK K)|(refine PW.cond (t:=_) rfl (fun h=> ?_) (fun h=> ?_)<;>(try(cases h;done))<;>(try simp only[nqb]at h))));all_goals((refine PW.ret ⟨_,rfl,?_⟩;first|refine .inl ⟨?_,rfl⟩|refine Fin.base (.id' ?_ (.bool _))|refine Fin.base (.id' ?_ (.int _ _)));(simp_all[hgt,slot,qC]<;>first|rfl|omega|(rw[qA];simp;done)|(rw[qA];simp;omega)))
def zS(s:Sq)(p:Pi):Int:=if zH s p then(if p.st=3 then s.h.tdiv 16 else s.h.tdiv 32)else 0
theorem zkz(s:Sq)(p:Pi)(H:za)(hs:SqOk s):CallOk Tryz.prog 53 [.agg (sqc s),.agg (pic p)] H (.int .i64 (zS s p)) H:=by
 have hall:(bs s.ia++bs s.ie).all PV.cell=true:=by simp[bs,PV.cell]
 have hlen:(bs s.ia++bs s.ie).length=128:=by simp[zc,hs.ia,hs.ie]
 have htk:=zfx s.ia s.ie hs.ia hs.ie;refine CallOk.go Tryz.func53 Tryz.ntmps53 Tryz.results53 ?_;cases hp:zH s p with
 | false=>
  have hpv:=fun H=>zd2 s p H hs;rw[hp]at hpv;(repeat'(first|refine PW.seq ?_|refine PW.skip ?_|refine PW.block ?_|((first|refine PW.rg rfl fun K hK=> ?_|refine PW.draw mix kr fun K hK=> ?_);simp(disch:=omega) only[go_sem,↓reduceIte,reduceCtorEq,sqc,pic,hall,hlen,htk])|((first|refine zh ?_ ?_|refine ze ?_ ?_|refine And.intro ?_ ?_)<;>intro h<;>(try simp only[nqb]at h)<;>simp(disch:=omega) only[go_sem,↓reduceIte,reduceCtorEq,sqc,pic,hall,hlen,htk,h])|((first|refine VCx.call (hpv _) rfl ?_|refine VCy.call (hpv _) rfl ?_);simp(disch:=omega) only[go_sem,↓reduceIte,reduceCtorEq,sqc,pic,hall,hlen,htk])|(refine hK _ _ ?_;clear hK K)|(refine PW.cond (t:=_) rfl (fun h=> ?_) (fun h=> ?_)<;>(try(cases h;done))<;>(try simp only[nqb]at h))));all_goals((refine PW.ret ⟨_,rfl,?_⟩;first|refine .inl ⟨?_,rfl⟩|refine Fin.base (.id' ?_ (.bool _))|refine Fin.base (.id' ?_ (.int _ _)));simp[zS,hp,slot,qC])
 | true=>
  have hpv:=fun H=>zd2 s p H hs;rw[hp]at hpv;have hh:=zb8 hp;have hg:0≤hgt s p∧hgt s p≤64:=by unfold hgt;rw[za7 _ _ om];split<;>omega
  (repeat'(first|refine PW.seq ?_|refine PW.skip ?_|refine PW.block ?_|((first|refine PW.rg rfl fun K hK=> ?_|refine PW.draw mix kr fun K hK=> ?_);simp(disch:=omega) only[go_sem,↓reduceIte,reduceCtorEq,sqc,pic,hall,hlen,htk,zjZ])|((first|refine zh ?_ ?_|refine ze ?_ ?_|refine And.intro ?_ ?_)<;>intro h<;>(try simp only[nqb]at h)<;>simp(disch:=omega) only[go_sem,↓reduceIte,reduceCtorEq,sqc,pic,hall,hlen,htk,zjZ,h])|((first|refine VCx.call (hpv _) rfl ?_|refine VCx.call (zqW s p _ hs om) rfl ?_|refine VCy.call (hpv _) rfl ?_|refine VCy.call (zqW s p _ hs om) rfl ?_);simp(disch:=omega) only[go_sem,↓reduceIte,reduceCtorEq,sqc,pic,hall,hlen,htk,zjZ])|(refine hK _ _ ?_;clear hK K)|(refine PW.cond (t:=_) rfl (fun h=> ?_) (fun h=> ?_)<;>(try(cases h;done))<;>(try simp only[nqb]at h))));all_goals((refine PW.ret ⟨_,rfl,?_⟩;first|refine .inl ⟨?_,rfl⟩|refine Fin.base (.id' ?_ (.bool _))|refine Fin.base (.id' ?_ (.int _ _)));simp[zS,hp,slot,qC])
  simp only[hgt,za7 _ _ (show 0≤s.h from om)];rw[za7 _ _ (by split<;>omega)];split<;>omega
theorem zip(s:Sq)(p:Pi)(H:za)(hs:SqOk s):CallOk Tryz.prog 60 [.agg (sqc s),.agg (pic p)] H (.int .i64 (zS s p)) H:=by
 have hall:(bs s.ia++bs s.ie).all PV.cell=true:=by simp[bs,PV.cell]
 have hlen:(bs s.ia++bs s.ie).length=128:=by simp[zc,hs.ia,hs.ie]
 have htk:=zfx s.ia s.ie hs.ia hs.ie;refine CallOk.go Tryz.func60 Tryz.ntmps60 Tryz.results60 ?_;cases hp:zH s p with
 | false=>
  have hpv:=fun H=>zcZ s p H hs;rw[hp]at hpv;(repeat'(first|refine PW.seq ?_|refine PW.skip ?_|refine PW.block ?_|((first|refine PW.rg rfl fun K hK=> ?_|refine PW.draw mix kr fun K hK=> ?_);simp(disch:=omega) only[go_sem,↓reduceIte,reduceCtorEq,sqc,pic,hall,hlen,htk])|((first|refine zh ?_ ?_|refine ze ?_ ?_|refine And.intro ?_ ?_)<;>intro h<;>(try simp only[nqb]at h)<;>simp(disch:=omega) only[go_sem,↓reduceIte,reduceCtorEq,sqc,pic,hall,hlen,htk,h])|((first|refine VCx.call (hpv _) rfl ?_|refine VCy.call (hpv _) rfl ?_);simp(disch:=omega) only[go_sem,↓reduceIte,reduceCtorEq,sqc,pic,hall,hlen,htk])|(refine hK _ _ ?_;clear hK K)|(refine PW.cond (t:=_) rfl (fun h=> ?_) (fun h=> ?_)<;>(try(cases h;done))<;>(try simp only[nqb]at h))));all_goals((refine PW.ret ⟨_,rfl,?_⟩;first|refine .inl ⟨?_,rfl⟩|refine Fin.base (.id' ?_ (.bool _))|refine Fin.base (.id' ?_ (.int _ _)));simp[zS,hp,slot,qC])
 | true=>have hpv:=fun H=>zcZ s p H hs;rw[hp]at hpv;have hh:=zb8 hp;(repeat'(first|refine PW.seq ?_|refine PW.skip ?_|refine PW.block ?_|((first|refine PW.rg rfl fun K hK=> ?_|refine PW.draw mix kr fun K hK=> ?_);simp(disch:=omega) only[go_sem,↓reduceIte,reduceCtorEq,sqc,pic,hall,hlen,htk,zjZ])|((first|refine zh ?_ ?_|refine ze ?_ ?_|refine And.intro ?_ ?_)<;>intro h<;>(try simp only[nqb]at h)<;>simp(disch:=omega) only[go_sem,↓reduceIte,reduceCtorEq,sqc,pic,hall,hlen,htk,zjZ,h])|((first|refine VCx.call (hpv _) rfl ?_|refine VCy.call (hpv _) rfl ?_);simp(disch:=omega) only[go_sem,↓reduceIte,reduceCtorEq,sqc,pic,hall,hlen,htk,zjZ])|(refine hK _ _ ?_;clear hK K)|(refine PW.cond (t:=_) rfl (fun h=> ?_) (fun h=> ?_)<;>(try(cases h;done))<;>(try simp only[nqb]at h))));all_goals((refine PW.ret ⟨_,rfl,?_⟩;first|refine .inl ⟨?_,rfl⟩|refine Fin.base (.id' ?_ (.bool _))|refine Fin.base (.id' ?_ (.int _ _)));(simp_all[zS,slot,qC]<;>first|rfl|omega|(rw[qA];simp;done)|(rw[qA];simp;omega)))
end Go.Proofs.YtpjlfoficnpfoaaGreatDoor.Sc
namespace Go.Proofs.YtpjlfoficnpfoaaGreatDoor.Lp
set_option linter.all false
open Go.ChangeShapes Go.WideShapes Go.ChangeAt Go.RowKit Pm Sc
theorem own:ownKnob Tryz.prog.godebug=none:=kr
theorem zsX:laidOutB Tryz.prog=true:=kr
theorem zlg{zs:List Int}(hw:∀ z∈zs,(Lit.int .u8 z).wf=true):∃ p:List UInt8,zs.map (PV.int .u8)=bs p∧p.length=zs.length:=by refine⟨zs.map fun z=>UInt8.ofNat z.toNat,?_,by simp⟩;simp only[bs,List.map_map];refine List.map_congr_left fun z hz=> ?_;have h1:=hw z hz;simp[Lit.wf,IntKind.min,IntKind.max,IntKind.signed,IntKind.bits]at h1;simp only[Function.comp,UInt8.toNat_ofNat'];congr 1;omega
theorem zij{ps:List PV}(h:Shp Tryz.prog 31 ps):∃ p:List UInt8,ps=[.slice (bs p) p.length false]:=by obtain⟨zs,rfl,_,hw⟩:=h.of_ints Tryz.underlying31 Tryz.underlying5;obtain⟨p,e,hl⟩:=zlg hw;exact⟨p,by rw[e,hl]⟩
theorem zpt{ps:List PV}(h:Shp Tryz.prog 27 ps):∃ p:List UInt8,ps=bs p∧p.length=64:=by obtain⟨zs,rfl,hl,hw⟩:=h.arr_ints Tryz.underlying27 Tryz.underlying5;obtain⟨p,e,hl'⟩:=zlg hw;exact⟨p,e,om⟩
theorem zbj{ps:List PV}(h:Shp Tryz.prog 3 ps):∃ n:Int,ps=[.int .i64 n]∧(-9223372036854775808≤n∧n≤9223372036854775807):=by obtain⟨n,rfl,hw⟩:=h.of_int Tryz.underlying3;simp[Lit.wf,IntKind.min,IntKind.max,IntKind.signed,IntKind.bits]at hw;exact⟨n,rfl,hw⟩
theorem zii{ps:List PV}(h:Shp Tryz.prog 2 ps):∃ n:Int,ps=[.int .i64 n]∧(-9223372036854775808≤n∧n≤9223372036854775807):=by obtain⟨n,rfl,hw⟩:=h.of_int Tryz.underlying2;simp[Lit.wf,IntKind.min,IntKind.max,IntKind.signed,IntKind.bits]at hw;exact⟨n,rfl,hw⟩
theorem zcA{ps:List PV}(h:Shp Tryz.prog 4 ps):∃ b,ps=[.bool b]:=h.of_bool Tryz.underlying4
theorem zsj{ps:List PV}(h:Shp Tryz.prog 26 ps):∃ a b:Int,ps=[.int .i64 a,.int .i64 b]∧(-9223372036854775808≤a∧a≤9223372036854775807)∧(-9223372036854775808≤b∧b≤9223372036854775807):=by
 obtain⟨pss,rfl,hf⟩:=h.fields Tryz.underlying26
 match pss,hf with
 | [a,b],⟨ha,hb,_⟩=>obtain⟨a,rfl,h1⟩:=zii ha;obtain⟨b,rfl,h2⟩:=zii hb;exact⟨a,b,rfl,h1,h2⟩
theorem zsi{ps:List PV}(h:Shp Tryz.prog 29 ps):∃ s:Sq,ps=sqc s∧SqOk s:=by
 obtain⟨pss,rfl,hf⟩:=h.fields Tryz.underlying29
 match pss,hf with
 | [a,b,c,d,e,f,g,k],⟨ha,hb,hc,hd,he,hf,hg,hk,_⟩=>obtain⟨a,rfl,h1⟩:=zbj ha;obtain⟨b,rfl,h2⟩:=zbj hb;obtain⟨n,m,rfl,h3,h4⟩:=zsj hc;obtain⟨d,rfl⟩:=zcA hd;obtain⟨e,rfl,h5⟩:=zbj he;obtain⟨f,rfl,h6⟩:=zbj hf;obtain⟨p,rfl,h7⟩:=zpt hg;obtain⟨q,rfl,h8⟩:=zpt hk;exact⟨⟨a,b,n,m,d,e,f,p,q⟩,by simp[sqc],⟨h1,h2,h3,h4,h5,h6,h7,h8⟩⟩
theorem zsk{ps:List PV}(h:Shp Tryz.prog 35 ps):∃ p:Pi,ps=pic p∧(-9223372036854775808≤p.ty∧p.ty≤9223372036854775807)∧(-9223372036854775808≤p.st∧p.st≤9223372036854775807)∧(-9223372036854775808≤p.od∧p.od≤9223372036854775807):=by
 obtain⟨pss,rfl,hf⟩:=h.fields Tryz.underlying35
 match pss,hf with
 | [a,b,c,d,e,f],⟨ha,hb,hc,hd,he,hf,_⟩=>obtain⟨a,rfl,h1⟩:=zbj ha;obtain⟨b,rfl,h2⟩:=zbj hb;obtain⟨c,rfl,h3⟩:=zbj hc;obtain⟨d,rfl⟩:=zcA hd;obtain⟨e,rfl⟩:=zcA he;obtain⟨f,rfl⟩:=zcA hf;exact⟨⟨a,b,c,d,e,f⟩,rfl,h1,h2,h3⟩
theorem zps{ps:List PV}(h:Shp Tryz.prog 58 ps):∃(t:Int) (p:List UInt8),ps=[.int .i64 t,.slice (bs p) p.length false]∧(-9223372036854775808≤t∧t≤9223372036854775807):=by
 obtain⟨pss,rfl,hf⟩:=h.fields Tryz.underlying58
 match pss,hf with
 | [a,b],⟨ha,hb,_⟩=>obtain⟨a,rfl,h1⟩:=zbj ha;obtain⟨p,rfl⟩:=zij hb;exact⟨a,p,rfl,h1⟩
end Go.Proofs.YtpjlfoficnpfoaaGreatDoor.Lp
namespace Go.Proofs.YtpjlfoficnpfoaaGreatDoor.Sc
set_option linter.all false
open Pm Ty Go.RowKit
def bn(l:List Bool)(k:Nat):Nat:=(l[k]?.getD false).toNat
theorem zbU(l:List Bool)(k:Nat):bn l k<2:=by unfold bn;cases l[k]?.getD false<;>decide
theorem zaH(l:List Bool)(k:Nat)(h:l.length≤k):bn l k=0:=by simp[bn,qD h]
theorem zjN(l:List Bool)(b:Bool)(k:Nat):bn (l++[b]) k=if k=l.length then b.toNat else bn l k:=by
 unfold bn;by_cases h:k<l.length
 ·rw[qL h,if_neg om]
 ·by_cases h2:k=l.length
  ·subst h2;simp
  ·rw[if_neg h2,qD (by simp;omega),qD om]
def pkN(l:List Bool)(i:Nat):Nat:=128 * bn l (8 * i)+64 * bn l (8 * i+1)+32 * bn l (8 * i+2)+16 * bn l (8 * i+3)+8 * bn l (8 * i+4)+4 * bn l (8 * i+5)+2 * bn l (8 * i+6)+bn l (8 * i+7)
theorem zja(l:List Bool)(i:Nat):pkN l i<256:=by unfold pkN;have h0:=zbU l (8 * i);have h1:=zbU l (8 * i+1);have h2:=zbU l (8 * i+2);have h3:=zbU l (8 * i+3);have h4:=zbU l (8 * i+4);have h5:=zbU l (8 * i+5);have h6:=zbU l (8 * i+6);have h7:=zbU l (8 * i+7);omega
def pkB(l:List Bool)(i:Nat):UInt8:=UInt8.ofNat (pkN l i)
theorem zmS(l:List Bool)(i:Nat):(pkB l i).toNat=pkN l i:=by have:=zja l i;simp[pkB];omega
def pk(l:List Bool):List UInt8:=(List.range ((l.length+7) / 8)).map (pkB l)
theorem zaf(l:List Bool):(pk l).length=(l.length+7) / 8:=by simp[pk]
theorem zew(l:List Bool)(i:Nat)(h:i<(l.length+7) / 8):(pk l)[i]? =some (pkB l i):=by simp[pk,h]
theorem zp8(l:List Bool)(i:Nat)(h:i<(l.length+7) / 8):byt (pk l) i=(pkN l i:Int):=by simp[byt,zew l i h,zmS]
theorem zhe(l:List Bool)(q r:Nat)(h:l.length=8 * q+r)(hr:r<8):pkN l q%2^(8 - r)=0:=by
 unfold pkN;have hz:∀ j,r≤j→bn l (8 * q+j)=0:=fun j hj=>zaH l _ om;have:r=0∨r=1∨r=2∨r=3∨r=4∨r=5∨r=6∨r=7:=om;rcases this with rfl|rfl|rfl|rfl|rfl|rfl|rfl|rfl
 ·rw[←qP (8 * q),hz 0 om,qP,hz 1 om,hz 2 om,hz 3 om,hz 4 om,hz 5 om,hz 6 om,hz 7 om]
 ·rw[hz 1 om,hz 2 om,hz 3 om,hz 4 om,hz 5 om,hz 6 om,hz 7 om];omega
 ·rw[hz 2 om,hz 3 om,hz 4 om,hz 5 om,hz 6 om,hz 7 om];omega
 ·rw[hz 3 om,hz 4 om,hz 5 om,hz 6 om,hz 7 om];omega
 ·rw[hz 4 om,hz 5 om,hz 6 om,hz 7 om];omega
 ·rw[hz 5 om,hz 6 om,hz 7 om];omega
 ·rw[hz 6 om,hz 7 om];omega
 ·rw[hz 7 om];omega
theorem zhf(l:List Bool)(b:Bool)(q r:Nat)(h:l.length=8 * q+r)(hr:r<8):pkN (l++[b]) q=pkN l q+b.toNat * 2^(7 - r):=by
 unfold pkN;simp only[zjN,h];have hz:bn l (8 * q+r)=0:=zaH l _ om;have:r=0∨r=1∨r=2∨r=3∨r=4∨r=5∨r=6∨r=7:=om;rcases this with rfl|rfl|rfl|rfl|rfl|rfl|rfl|rfl;all_goals simp only[qP]at hz ⊢
 all_goals simp(disch:=omega) only[if_neg,if_true,hz,Nat.reducePow,Nat.reduceSub]
 all_goals omega
theorem zdD(l:List Bool)(b:Bool)(q i:Nat)(h:8 * q≤l.length)(hi:i<q):pkN (l++[b]) i=pkN l i:=by unfold pkN;simp(disch:=omega) only[zjN,if_neg]
theorem zp7(l:List Bool)(b:Bool)(q:Nat)(h:l.length=8 * q):pk (l++[b])=pk l++[UInt8.ofNat (b.toNat * 128)]:=by
 apply List.ext_getElem?;intro i;by_cases h1:i<q
 ·rw[zew _ i (by simp;omega),qL (by rw[zaf];omega),zew _ i om];simp only[pkB,zdD l b q i om h1]
 ·by_cases h2:i=q
  ·subst h2;rw[zew _ i (by simp;omega),List.getElem?_append_right (by rw[zaf];omega),zaf,show i - (l.length+7) / 8=0 from om];have h0:pkN l i=0:=by unfold pkN;rw[zaH l (8 * i) om,zaH l (8 * i+1) om,zaH l (8 * i+2) om,zaH l (8 * i+3) om,zaH l (8 * i+4) om,zaH l (8 * i+5) om,zaH l (8 * i+6) om,zaH l (8 * i+7) om]
   have:=zhf l b i 0 om om;simp[pkB,this,h0]
  ·rw[qD (by rw[zaf];simp;omega),qD (by simp[zaf];omega)]
theorem zp6(l:List Bool)(b:Bool)(q r:Nat)(h:l.length=8 * q+r)(hr0:0<r)(hr:r<8):pk (l++[b])=(pk l).set q (UInt8.ofNat (pkN l q+b.toNat * 2^(7 - r))):=by
 apply List.ext_getElem?;intro i;rw[List.getElem?_set];by_cases h1:i<q
 ·rw[if_neg om,zew _ i (by simp;omega),zew _ i om];simp only[pkB,zdD l b q i om h1]
 ·by_cases h2:i=q
  ·subst h2;rw[if_pos rfl,if_pos (by rw[zaf];omega),zew _ i (by simp;omega)];simp only[pkB,zhf l b i r h hr]
  ·rw[if_neg om,qD (by rw[zaf];simp;omega),qD (by rw[zaf];omega)]
def zj(V n:Nat):List Bool:=(List.range n).map fun i=>decide (V / 2^(n - 1 - i)%2=1)
theorem zm(V n:Nat):(zj V n).length=n:=by simp[zj]
theorem zgK(V n i:Nat)(h:i<n):(zj V n).take (i+1)=(zj V n).take i++[decide (V / 2^(n - 1 - i)%2=1)]:=by rw[qH (by rw[zm];exact h)];simp[zj]
theorem ziG(m:Nat):(decide (m%2=1)).toNat=m%2:=by rcases Nat.mod_two_eq_zero_or_one m with h|h<;>simp[h]
end Go.Proofs.YtpjlfoficnpfoaaGreatDoor.Sc
