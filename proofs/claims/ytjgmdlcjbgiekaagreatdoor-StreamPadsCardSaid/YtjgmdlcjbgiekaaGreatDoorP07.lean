/-
  Parts of the proof, put together in one text. No condition.
-/
import Derived.Test.YtjgmdlcjbgiekaaGreatDoorP06
import Derived.Test.YtjgmdlcjbgiekaaGreatDoorProg
import Derived.KernelRfl
import Derived.Test.YtjgmdlcjbgiekaaGreatDoorRows
namespace Go.Proofs.YtjgmdlcjbgiekaaGreatDoor.Ty
open Pm
theorem sz0:szT Tryz.prog 0=some 1∧byT Tryz.prog 0=some 0∧szT Tryz.prog 1=some 1∧byT Tryz.prog 1=some 8∧szT Tryz.prog 2=some 1∧byT Tryz.prog 2=some 8∧szT Tryz.prog 3=some 1∧byT Tryz.prog 3=some 8∧szT Tryz.prog 4=some 1∧byT Tryz.prog 4=some 1∧szT Tryz.prog 5=some 1∧byT Tryz.prog 5=some 1∧szT Tryz.prog 6=some 1∧byT Tryz.prog 6=some 1∧szT Tryz.prog 7=some 4∧byT Tryz.prog 7=some 24∧szT Tryz.prog 8=some 4∧byT Tryz.prog 8=some 24∧szT Tryz.prog 9=some 1∧byT Tryz.prog 9=some 16∧szT Tryz.prog 16=some 1∧byT Tryz.prog 16=some 8∧szT Tryz.prog 18=some 1∧byT Tryz.prog 18=some 8∧szT Tryz.prog 19=some 1∧byT Tryz.prog 19=some 8∧szT Tryz.prog 20=some 1∧byT Tryz.prog 20=some 16∧szT Tryz.prog 22=some 1∧byT Tryz.prog 22=some 24∧szT Tryz.prog 23=some 1∧byT Tryz.prog 23=some 8∧szT Tryz.prog 24=some 1∧byT Tryz.prog 24=some 8∧szT Tryz.prog 26=some 2∧byT Tryz.prog 26=some 16∧szT Tryz.prog 27=some 64∧byT Tryz.prog 27=some 64∧szT Tryz.prog 28=some 135∧byT Tryz.prog 28=some 184:=by and_intros<;>kernel_rfl
theorem sz40:szT Tryz.prog 29=some 135∧byT Tryz.prog 29=some 184∧szT Tryz.prog 30=some 1∧byT Tryz.prog 30=some 24∧szT Tryz.prog 31=some 1∧byT Tryz.prog 31=some 24∧szT Tryz.prog 32=some 5∧byT Tryz.prog 32=some 88∧szT Tryz.prog 33=some 5∧byT Tryz.prog 33=some 88∧szT Tryz.prog 35=some 6∧byT Tryz.prog 35=some 32∧szT Tryz.prog 36=some 1∧byT Tryz.prog 36=some 24∧szT Tryz.prog 37=some 1∧byT Tryz.prog 37=some 24∧szT Tryz.prog 38=some 8∧byT Tryz.prog 38=some 80∧szT Tryz.prog 39=some 8∧byT Tryz.prog 39=some 80∧szT Tryz.prog 40=some 3∧byT Tryz.prog 40=some 16∧szT Tryz.prog 41=some 3∧byT Tryz.prog 41=some 16∧szT Tryz.prog 42=some 148∧byT Tryz.prog 42=some 296∧szT Tryz.prog 43=some 148∧byT Tryz.prog 43=some 296∧szT Tryz.prog 44=some 1∧byT Tryz.prog 44=some 8∧szT Tryz.prog 45=some 1∧byT Tryz.prog 45=some 0∧szT Tryz.prog 47=some 1∧byT Tryz.prog 47=some 8∧szT Tryz.prog 48=some 1∧byT Tryz.prog 48=some 8∧szT Tryz.prog 49=some 1∧byT Tryz.prog 49=some 24∧szT Tryz.prog 50=some 1∧byT Tryz.prog 50=some 8:=by and_intros<;>kernel_rfl
theorem sz80:szT Tryz.prog 52=some 11∧byT Tryz.prog 52=some 136∧szT Tryz.prog 53=some 11∧byT Tryz.prog 53=some 136∧szT Tryz.prog 54=some 1∧byT Tryz.prog 54=some 8∧szT Tryz.prog 56=some 1∧byT Tryz.prog 56=some 24∧szT Tryz.prog 57=some 1∧byT Tryz.prog 57=some 8∧szT Tryz.prog 58=some 1∧byT Tryz.prog 58=some 24∧szT Tryz.prog 60=some 2∧byT Tryz.prog 60=some 32∧szT Tryz.prog 61=some 2∧byT Tryz.prog 61=some 32∧szT Tryz.prog 63=some 1∧byT Tryz.prog 63=some 8∧szT Tryz.prog 64=some 1∧byT Tryz.prog 64=some 24∧szT Tryz.prog 65=some 1∧byT Tryz.prog 65=some 0∧szT Tryz.prog 67=some 1∧byT Tryz.prog 67=some 8∧szT Tryz.prog 68=some 1∧byT Tryz.prog 68=some 24∧szT Tryz.prog 69=some 1∧byT Tryz.prog 69=some 8∧szT Tryz.prog 71=some 6∧byT Tryz.prog 71=some 48∧szT Tryz.prog 72=some 6∧byT Tryz.prog 72=some 48∧szT Tryz.prog 74=some 147∧byT Tryz.prog 74=some 264∧szT Tryz.prog 75=some 1∧byT Tryz.prog 75=some 0∧szT Tryz.prog 76=some 1∧byT Tryz.prog 76=some 8∧szT Tryz.prog 77=some 1∧byT Tryz.prog 77=some 8:=by and_intros<;>kernel_rfl
theorem zvM:szT Tryz.prog 79=some 145∧byT Tryz.prog 79=some 296∧szT Tryz.prog 80=some 145∧byT Tryz.prog 80=some 296∧szT Tryz.prog 81=some 1∧byT Tryz.prog 81=some 8∧szT Tryz.prog 83=some 6∧byT Tryz.prog 83=some 48∧szT Tryz.prog 84=some 1∧byT Tryz.prog 84=some 8∧szT Tryz.prog 86=some 15∧byT Tryz.prog 86=some 264∧szT Tryz.prog 87=some 15∧byT Tryz.prog 87=some 264∧szT Tryz.prog 88=some 1∧byT Tryz.prog 88=some 0∧szT Tryz.prog 90=some 1∧byT Tryz.prog 90=some 8∧szT Tryz.prog 91=some 1∧byT Tryz.prog 91=some 0∧szT Tryz.prog 92=some 1∧byT Tryz.prog 92=some 8∧szT Tryz.prog 93=some 1∧byT Tryz.prog 93=some 8∧szT Tryz.prog 95=some 1∧byT Tryz.prog 95=some 8∧szT Tryz.prog 96=some 1∧byT Tryz.prog 96=some 8∧szT Tryz.prog 97=some 1∧byT Tryz.prog 97=some 24∧szT Tryz.prog 98=some 1∧byT Tryz.prog 98=some 8∧szT Tryz.prog 99=some 6∧byT Tryz.prog 99=some 96∧szT Tryz.prog 100=some 6∧byT Tryz.prog 100=some 96∧szT Tryz.prog 101=some 1∧byT Tryz.prog 101=some 8∧szT Tryz.prog 102=some 1∧byT Tryz.prog 102=some 8:=by and_intros<;>kernel_rfl
theorem zvL:szT Tryz.prog 103=some 1∧byT Tryz.prog 103=some 8∧szT Tryz.prog 104=some 1∧byT Tryz.prog 104=some 24∧szT Tryz.prog 105=some 1∧byT Tryz.prog 105=some 0∧szT Tryz.prog 108=some 3∧byT Tryz.prog 108=some 40∧szT Tryz.prog 109=some 5∧byT Tryz.prog 109=some 56∧szT Tryz.prog 110=some 5∧byT Tryz.prog 110=some 56∧szT Tryz.prog 111=some 1∧byT Tryz.prog 111=some 8∧szT Tryz.prog 112=some 2∧byT Tryz.prog 112=some 16∧szT Tryz.prog 113=some 2∧byT Tryz.prog 113=some 16∧szT Tryz.prog 114=some 1∧byT Tryz.prog 114=some 8∧szT Tryz.prog 115=some 1∧byT Tryz.prog 115=some 8∧szT Tryz.prog 116=some 1∧byT Tryz.prog 116=some 8∧szT Tryz.prog 117=some 6∧byT Tryz.prog 117=some 64∧szT Tryz.prog 118=some 6∧byT Tryz.prog 118=some 64∧szT Tryz.prog 119=some 1∧byT Tryz.prog 119=some 8∧szT Tryz.prog 120=some 1∧byT Tryz.prog 120=some 8∧szT Tryz.prog 123=some 145∧byT Tryz.prog 123=some 248∧szT Tryz.prog 126=some 1∧byT Tryz.prog 126=some 24∧szT Tryz.prog 127=some 1∧byT Tryz.prog 127=some 0∧szT Tryz.prog 128=some 1∧byT Tryz.prog 128=some 8:=by and_intros<;>kernel_rfl
theorem zvK:szT Tryz.prog 129=some 1∧byT Tryz.prog 129=some 0∧szT Tryz.prog 130=some 1∧byT Tryz.prog 130=some 8∧szT Tryz.prog 133=some 3∧byT Tryz.prog 133=some 56∧szT Tryz.prog 139=some 1∧byT Tryz.prog 139=some 8∧szT Tryz.prog 140=some 1∧byT Tryz.prog 140=some 8∧szT Tryz.prog 141=some 1∧byT Tryz.prog 141=some 0∧szT Tryz.prog 143=some 2∧byT Tryz.prog 143=some 2∧szT Tryz.prog 145=some 2∧byT Tryz.prog 145=some 16∧szT Tryz.prog 146=some 4∧byT Tryz.prog 146=some 32∧szT Tryz.prog 147=some 8∧byT Tryz.prog 147=some 64∧szT Tryz.prog 148=some 2∧byT Tryz.prog 148=some 16∧szT Tryz.prog 149=some 4∧byT Tryz.prog 149=some 32∧szT Tryz.prog 150=some 6∧byT Tryz.prog 150=some 6∧szT Tryz.prog 151=some 64∧byT Tryz.prog 151=some 512∧szT Tryz.prog 152=some 384∧byT Tryz.prog 152=some 3072∧szT Tryz.prog 154=some 408∧byT Tryz.prog 154=some 3200∧szT Tryz.prog 155=some 1∧byT Tryz.prog 155=some 8∧szT Tryz.prog 157=some 4∧byT Tryz.prog 157=some 24∧szT Tryz.prog 158=some 1∧byT Tryz.prog 158=some 8∧szT Tryz.prog 161=some 1∧byT Tryz.prog 161=some 24:=by and_intros<;>kernel_rfl
theorem zvJ:szT Tryz.prog 164=some 4∧byT Tryz.prog 164=some 32∧szT Tryz.prog 174=some 1∧byT Tryz.prog 174=some 8∧szT Tryz.prog 175=some 1∧byT Tryz.prog 175=some 8∧szT Tryz.prog 177=some 1∧byT Tryz.prog 177=some 8∧szT Tryz.prog 178=some 1∧byT Tryz.prog 178=some 8∧szT Tryz.prog 185=some 1∧byT Tryz.prog 185=some 8∧szT Tryz.prog 188=some 1∧byT Tryz.prog 188=some 8∧szT Tryz.prog 198=some 1∧byT Tryz.prog 198=some 8∧szT Tryz.prog 199=some 1∧byT Tryz.prog 199=some 8∧szT Tryz.prog 201=some 139∧byT Tryz.prog 201=some 216∧szT Tryz.prog 202=some 1∧byT Tryz.prog 202=some 0∧szT Tryz.prog 204=some 1∧byT Tryz.prog 204=some 8∧szT Tryz.prog 205=some 1∧byT Tryz.prog 205=some 8∧szT Tryz.prog 206=some 1∧byT Tryz.prog 206=some 0∧szT Tryz.prog 208=some 1∧byT Tryz.prog 208=some 4∧szT Tryz.prog 209=some 1∧byT Tryz.prog 209=some 0∧szT Tryz.prog 211=some 3∧byT Tryz.prog 211=some 24∧szT Tryz.prog 213=some 8∧byT Tryz.prog 213=some 64∧szT Tryz.prog 215=some 1∧byT Tryz.prog 215=some 0∧szT Tryz.prog 229=some 1∧byT Tryz.prog 229=some 0:=by and_intros<;>kernel_rfl
theorem zvI:szT Tryz.prog 230=some 1∧byT Tryz.prog 230=some 8∧szT Tryz.prog 232=some 1∧byT Tryz.prog 232=some 8∧szT Tryz.prog 236=some 1∧byT Tryz.prog 236=some 0∧szT Tryz.prog 244=some 1∧byT Tryz.prog 244=some 0∧szT Tryz.prog 273=some 1∧byT Tryz.prog 273=some 8∧szT Tryz.prog 274=some 1∧byT Tryz.prog 274=some 8∧szT Tryz.prog 276=some 3∧byT Tryz.prog 276=some 40∧szT Tryz.prog 280=some 15∧byT Tryz.prog 280=some 112∧szT Tryz.prog 281=some 1∧byT Tryz.prog 281=some 8∧szT Tryz.prog 283=some 1∧byT Tryz.prog 283=some 8∧szT Tryz.prog 284=some 1∧byT Tryz.prog 284=some 24∧szT Tryz.prog 291=some 1∧byT Tryz.prog 291=some 0∧szT Tryz.prog 303=some 1∧byT Tryz.prog 303=some 8∧szT Tryz.prog 310=some 1∧byT Tryz.prog 310=some 8∧szT Tryz.prog 323=some 1∧byT Tryz.prog 323=some 8∧szT Tryz.prog 331=some 1∧byT Tryz.prog 331=some 8∧szT Tryz.prog 341=some 1∧byT Tryz.prog 341=some 0∧szT Tryz.prog 345=some 8∧byT Tryz.prog 345=some 64∧szT Tryz.prog 346=some 64∧byT Tryz.prog 346=some 512∧szT Tryz.prog 349=some 64∧byT Tryz.prog 349=some 512:=by and_intros<;>kernel_rfl
theorem zvH:szT Tryz.prog 351=some 10∧byT Tryz.prog 351=some 176∧szT Tryz.prog 353=some 4∧byT Tryz.prog 353=some 32∧szT Tryz.prog 362=some 1∧byT Tryz.prog 362=some 8∧szT Tryz.prog 363=some 1∧byT Tryz.prog 363=some 8∧szT Tryz.prog 364=some 1∧byT Tryz.prog 364=some 8∧szT Tryz.prog 365=some 1∧byT Tryz.prog 365=some 0∧szT Tryz.prog 371=some 1∧byT Tryz.prog 371=some 8∧szT Tryz.prog 390=some 0∧byT Tryz.prog 390=some 0:=by and_intros<;>kernel_rfl
theorem zc0:zj Tryz.prog 2=some [.int .i64 0]∧zj Tryz.prog 3=some [.int .i64 0]∧zj Tryz.prog 4=some [.bool false]∧zj Tryz.prog 5=some [.int .u8 0]∧zj Tryz.prog 6=some [.int .u8 0]∧zj Tryz.prog 7=some [.int .i64 0,.int .i64 0,.bool false,.int .u8 0]∧zj Tryz.prog 8=some [.int .i64 0,.int .i64 0,.bool false,.int .u8 0]∧zj Tryz.prog 9=some [.str []]∧zj Tryz.prog 16=some [.nilp]∧zj Tryz.prog 18=some [.nilp]∧zj Tryz.prog 19=some [.nilp]∧zj Tryz.prog 22=some [.slice [] 0 true]∧zj Tryz.prog 26=some [.int .i64 0,.int .i64 0]∧zj Tryz.prog 27=some (List.replicate 64 (PV.int .u8 0):List PV)∧zj Tryz.prog 28=some (([.int .i64 0,.int .i64 0,.int .i64 0,.int .i64 0,.bool false,.int .i64 0,.int .i64 0]:List PV)++(List.replicate 128 (PV.int .u8 0):List PV))∧zj Tryz.prog 29=some (([.int .i64 0,.int .i64 0,.int .i64 0,.int .i64 0,.bool false,.int .i64 0,.int .i64 0]:List PV)++(List.replicate 128 (PV.int .u8 0):List PV))∧zj Tryz.prog 30=some [.slice [] 0 true]∧zj Tryz.prog 31=some [.slice [] 0 true]∧zj Tryz.prog 32=some [.int .i64 0,.int .i64 0,.slice [] 0 true,.slice [] 0 true,.slice [] 0 true]∧zj Tryz.prog 33=some [.int .i64 0,.int .i64 0,.slice [] 0 true,.slice [] 0 true,.slice [] 0 true]∧zj Tryz.prog 35=some [.int .i64 0,.int .i64 0,.int .i64 0,.bool false,.bool false,.bool false]∧zj Tryz.prog 36=some [.slice [] 0 true]∧zj Tryz.prog 37=some [.slice [] 0 true]∧zj Tryz.prog 38=some [.int .i64 0,.int .i64 0,.int .i64 0,.bool false,.bool false,.bool false,.slice [] 0 true,.slice [] 0 true]∧zj Tryz.prog 39=some [.int .i64 0,.int .i64 0,.int .i64 0,.bool false,.bool false,.bool false,.slice [] 0 true,.slice [] 0 true]∧zj Tryz.prog 40=some [.bool false,.bool false,.int .i64 0]∧zj Tryz.prog 41=some [.bool false,.bool false,.int .i64 0]∧zj Tryz.prog 42=some (([.int .i64 0,.int .i64 0,.int .i64 0,.int .i64 0,.int .i64 0,.bool false,.int .i64 0,.int .i64 0]:List PV)++(List.replicate 128 (PV.int .u8 0):List PV)++([.bool false,.bool false,.int .i64 0,.int .i64 0,.int .i64 0,.int .i64 0,.bool false,.bool false,.bool false,.slice [] 0 true,.slice [] 0 true,.int .i64 0]:List PV))∧zj Tryz.prog 43=some (([.int .i64 0,.int .i64 0,.int .i64 0,.int .i64 0,.int .i64 0,.bool false,.int .i64 0,.int .i64 0]:List PV)++(List.replicate 128 (PV.int .u8 0):List PV)++([.bool false,.bool false,.int .i64 0,.int .i64 0,.int .i64 0,.int .i64 0,.bool false,.bool false,.bool false,.slice [] 0 true,.slice [] 0 true,.int .i64 0]:List PV))∧zj Tryz.prog 44=some [.int .i64 0]∧zj Tryz.prog 49=some [.slice [] 0 true]∧zj Tryz.prog 52=some [.int .i64 0,.int .i64 0,.slice [] 0 true,.slice [] 0 true,.slice [] 0 true,.int .i64 0,.int .i64 0,.int .i64 0,.bool false,.int .i64 0,.bool false]∧zj Tryz.prog 53=some [.int .i64 0,.int .i64 0,.slice [] 0 true,.slice [] 0 true,.slice [] 0 true,.int .i64 0,.int .i64 0,.int .i64 0,.bool false,.int .i64 0,.bool false]∧zj Tryz.prog 56=some [.slice [] 0 true]∧zj Tryz.prog 58=some [.slice [] 0 true]∧zj Tryz.prog 60=some [.int .i64 0,.slice [] 0 true]∧zj Tryz.prog 61=some [.int .i64 0,.slice [] 0 true]∧zj Tryz.prog 64=some [.slice [] 0 true]∧zj Tryz.prog 68=some [.slice [] 0 true]∧zj Tryz.prog 71=some [.int .i64 0,.int .i64 0,.int .i64 0,.int .i64 0,.int .i64 0,.int .i64 0]:=by and_intros<;>kernel_rfl
theorem zc40:zj Tryz.prog 72=some [.int .i64 0,.int .i64 0,.int .i64 0,.int .i64 0,.int .i64 0,.int .i64 0]∧zj Tryz.prog 74=some (([.int .i64 0,.int .i64 0,.int .i64 0,.int .i64 0,.int .i64 0,.int .i64 0,.int .i64 0,.int .i64 0,.int .i64 0,.int .i64 0,.bool false,.int .i64 0,.int .i64 0]:List PV)++(List.replicate 128 (PV.int .u8 0):List PV)++([.int .i64 0,.int .i64 0,.int .i64 0,.bool false,.bool false,.bool false]:List PV))∧zj Tryz.prog 79=some (([.slice [] 0 true,.bool false,.int .i64 0,.int .i64 0,.int .i64 0,.int .i64 0,.bool false,.int .i64 0,.int .i64 0]:List PV)++(List.replicate 128 (PV.int .u8 0):List PV)++([.int .i64 0,.int .i64 0,.bool false,.int .i64 0,.int .i64 0,.int .i64 0,.slice [] 0 true,.bool false]:List PV))∧zj Tryz.prog 80=some (([.slice [] 0 true,.bool false,.int .i64 0,.int .i64 0,.int .i64 0,.int .i64 0,.bool false,.int .i64 0,.int .i64 0]:List PV)++(List.replicate 128 (PV.int .u8 0):List PV)++([.int .i64 0,.int .i64 0,.bool false,.int .i64 0,.int .i64 0,.int .i64 0,.slice [] 0 true,.bool false]:List PV))∧zj Tryz.prog 83=some [.int .i64 0,.int .i64 0,.int .i64 0,.int .i64 0,.int .i64 0,.int .i64 0]∧zj Tryz.prog 86=some [.int .i64 0,.int .i64 0,.slice [] 0 true,.slice [] 0 true,.slice [] 0 true,.int .i64 0,.int .i64 0,.slice [] 0 true,.slice [] 0 true,.slice [] 0 true,.int .i64 0,.int .i64 0,.slice [] 0 true,.slice [] 0 true,.slice [] 0 true]∧zj Tryz.prog 87=some [.int .i64 0,.int .i64 0,.slice [] 0 true,.slice [] 0 true,.slice [] 0 true,.int .i64 0,.int .i64 0,.slice [] 0 true,.slice [] 0 true,.slice [] 0 true,.int .i64 0,.int .i64 0,.slice [] 0 true,.slice [] 0 true,.slice [] 0 true]∧zj Tryz.prog 97=some [.slice [] 0 true]∧zj Tryz.prog 99=some [.int .i64 0,.int .i64 0,.slice [] 0 true,.slice [] 0 true,.slice [] 0 true,.bool false]∧zj Tryz.prog 100=some [.int .i64 0,.int .i64 0,.slice [] 0 true,.slice [] 0 true,.slice [] 0 true,.bool false]∧zj Tryz.prog 104=some [.slice [] 0 true]∧zj Tryz.prog 108=some [.slice [] 0 true,.int .i64 0,.bool false]∧zj Tryz.prog 109=some [.int .i64 0,.slice [] 0 true,.int .i64 0,.int .i64 0,.int .i64 0]∧zj Tryz.prog 110=some [.int .i64 0,.slice [] 0 true,.int .i64 0,.int .i64 0,.int .i64 0]∧zj Tryz.prog 112=some [.int .i64 0,.int .i64 0]∧zj Tryz.prog 113=some [.int .i64 0,.int .i64 0]∧zj Tryz.prog 117=some [.slice [] 0 true,.int .i64 0,.int .i64 0,.bool false,.int .i64 0,.int .i64 0]∧zj Tryz.prog 118=some [.slice [] 0 true,.int .i64 0,.int .i64 0,.bool false,.int .i64 0,.int .i64 0]∧zj Tryz.prog 123=some (([.int .i64 0,.int .i64 0,.int .i64 0,.int .i64 0,.int .i64 0,.int .i64 0,.bool false,.int .i64 0,.int .i64 0]:List PV)++(List.replicate 128 (PV.int .u8 0):List PV)++([.int .i64 0,.int .i64 0,.int .i64 0,.bool false,.bool false,.bool false,.bool false,.int .i64 0]:List PV))∧zj Tryz.prog 126=some [.slice [] 0 true]∧zj Tryz.prog 133=some [.int .i64 0,.slice [] 0 true,.slice [] 0 true]∧zj Tryz.prog 143=some [.bool false,.bool false]∧zj Tryz.prog 145=some [.int .i64 0,.int .i64 0]∧zj Tryz.prog 146=some [.int .i64 0,.int .i64 0,.int .i64 0,.int .i64 0]∧zj Tryz.prog 147=some [.int .i64 0,.int .i64 0,.int .i64 0,.int .i64 0,.int .i64 0,.int .i64 0,.int .i64 0,.int .i64 0]∧zj Tryz.prog 148=some [.int .i64 0,.int .i64 0]∧zj Tryz.prog 149=some [.int .i64 0,.int .i64 0,.int .i64 0,.int .i64 0]∧zj Tryz.prog 150=some [.bool false,.bool false,.bool false,.bool false,.bool false,.bool false]∧zj Tryz.prog 151=some (List.replicate 64 (PV.int .i64 0):List PV)∧zj Tryz.prog 152=some (List.replicate 384 (PV.int .i64 0):List PV)∧zj Tryz.prog 154=some (([.int .i64 0,.bool false,.bool false,.bool false,.bool false]:List PV)++(List.replicate 13 (PV.int .i64 0):List PV)++([.bool false,.bool false,.bool false,.bool false,.bool false,.bool false]:List PV)++(List.replicate 384 (PV.int .i64 0):List PV))∧zj Tryz.prog 157=some [.int .i64 0,.int .i64 0,.bool false,.bool false]∧zj Tryz.prog 161=some [.slice [] 0 true]∧zj Tryz.prog 164=some [.int .i64 0,.int .i64 0,.int .i64 0,.int .i64 0]∧zj Tryz.prog 178=some [.int .u64 0]∧zj Tryz.prog 198=some [.int .u64 0]∧zj Tryz.prog 201=some (([.int .i64 0,.int .i64 0,.int .i64 0,.int .i64 0,.bool false,.int .i64 0,.int .i64 0]:List PV)++(List.replicate 128 (PV.int .u8 0):List PV)++([.bool false,.int .i64 0,.bool false,.int .i64 0]:List PV))∧zj Tryz.prog 204=some [.nilp]∧zj Tryz.prog 205=some [.nilp]∧zj Tryz.prog 208=some [.int .u32 0]:=by and_intros<;>kernel_rfl
theorem zc80:zj Tryz.prog 211=some [.int .i64 0,.int .i64 0,.int .i64 0]∧zj Tryz.prog 213=some [.int .i64 0,.int .i64 0,.int .i64 0,.int .i64 0,.int .i64 0,.int .i64 0,.int .i64 0,.int .i64 0]∧zj Tryz.prog 232=some [.nilp]∧zj Tryz.prog 273=some [.nilp]∧zj Tryz.prog 274=some [.nilp]∧zj Tryz.prog 276=some [.slice [] 0 true,.int .i64 0,.int .i64 0]∧zj Tryz.prog 280=some [.int .i64 0,.int .i64 0,.int .i64 0,.int .i64 0,.int .i64 0,.int .i64 0,.int .i64 0,.int .i64 0,.nilp,.int .i64 0,.int .i64 0,.bool false,.bool false,.nilp,.bool false]∧zj Tryz.prog 283=some [.nilp]∧zj Tryz.prog 284=some [.slice [] 0 true]∧zj Tryz.prog 323=some [.nilp]∧zj Tryz.prog 331=some [.nilp]∧zj Tryz.prog 345=some [.int .i64 0,.int .i64 0,.int .i64 0,.int .i64 0,.int .i64 0,.int .i64 0,.int .i64 0,.int .i64 0]∧zj Tryz.prog 346=some (List.replicate 64 (PV.int .i64 0):List PV)∧zj Tryz.prog 349=some (List.replicate 64 (PV.int .i64 0):List PV)∧zj Tryz.prog 351=some [.int .i64 0,.int .i64 0,.slice [] 0 true,.slice [] 0 true,.slice [] 0 true,.int .i64 0,.int .i64 0,.slice [] 0 true,.slice [] 0 true,.slice [] 0 true]∧zj Tryz.prog 353=some [.int .i64 0,.int .i64 0,.int .i64 0,.int .i64 0]∧zj Tryz.prog 362=some [.nilp]∧zj Tryz.prog 363=some [.int .i64 0]∧zj Tryz.prog 364=some [.int .i64 0]∧zj Tryz.prog 390=some []:=by and_intros<;>kernel_rfl
theorem mix:Tryz.prog.follows .mixedOrders=true:=by kernel_rfl
attribute [go_sem] sz0 sz40 sz80 zvM zvL zvK zvJ zvI zvH zc0 zc40 zc80 Tryz.underlying0 Tryz.underlying1 Tryz.underlying2 Tryz.underlying3 Tryz.underlying4 Tryz.underlying5 Tryz.underlying6 Tryz.underlying7 Tryz.underlying8 Tryz.underlying9 Tryz.underlying16 Tryz.underlying18 Tryz.underlying19 Tryz.underlying20 Tryz.underlying22 Tryz.underlying23 Tryz.underlying24 Tryz.underlying26 Tryz.underlying27 Tryz.underlying28 Tryz.underlying29 Tryz.underlying30 Tryz.underlying31 Tryz.underlying32 Tryz.underlying33 Tryz.underlying35 Tryz.underlying36 Tryz.underlying37
attribute [go_sem] Tryz.underlying38 Tryz.underlying39 Tryz.underlying40 Tryz.underlying41 Tryz.underlying42 Tryz.underlying43 Tryz.underlying44 Tryz.underlying45 Tryz.underlying47 Tryz.underlying48 Tryz.underlying49 Tryz.underlying50 Tryz.underlying52 Tryz.underlying53 Tryz.underlying54 Tryz.underlying56 Tryz.underlying57 Tryz.underlying58 Tryz.underlying60 Tryz.underlying61 Tryz.underlying63 Tryz.underlying64 Tryz.underlying65 Tryz.underlying67 Tryz.underlying68 Tryz.underlying69 Tryz.underlying71 Tryz.underlying72 Tryz.underlying74 Tryz.underlying75 Tryz.underlying76 Tryz.underlying77 Tryz.underlying79 Tryz.underlying80 Tryz.underlying81 Tryz.underlying83 Tryz.underlying84 Tryz.underlying86 Tryz.underlying87 Tryz.underlying88
attribute [go_sem] Tryz.underlying90 Tryz.underlying91 Tryz.underlying92 Tryz.underlying93 Tryz.underlying95 Tryz.underlying96 Tryz.underlying97 Tryz.underlying98 Tryz.underlying99 Tryz.underlying100 Tryz.underlying101 Tryz.underlying102 Tryz.underlying103 Tryz.underlying104 Tryz.underlying105 Tryz.underlying108 Tryz.underlying109 Tryz.underlying110 Tryz.underlying111 Tryz.underlying112 Tryz.underlying113 Tryz.underlying114 Tryz.underlying115 Tryz.underlying116 Tryz.underlying117 Tryz.underlying118 Tryz.underlying119 Tryz.underlying120 Tryz.underlying123 Tryz.underlying126 Tryz.underlying127 Tryz.underlying128 Tryz.underlying129 Tryz.underlying130 Tryz.underlying133 Tryz.underlying139 Tryz.underlying140 Tryz.underlying141 Tryz.underlying143 Tryz.underlying145
attribute [go_sem] Tryz.underlying146 Tryz.underlying147 Tryz.underlying148 Tryz.underlying149 Tryz.underlying150 Tryz.underlying151 Tryz.underlying152 Tryz.underlying154 Tryz.underlying155 Tryz.underlying157 Tryz.underlying158 Tryz.underlying161 Tryz.underlying164 Tryz.underlying174 Tryz.underlying175 Tryz.underlying177 Tryz.underlying178 Tryz.underlying185 Tryz.underlying188 Tryz.underlying198 Tryz.underlying199 Tryz.underlying201 Tryz.underlying202 Tryz.underlying204 Tryz.underlying205 Tryz.underlying206 Tryz.underlying208 Tryz.underlying209 Tryz.underlying211 Tryz.underlying213 Tryz.underlying215 Tryz.underlying229 Tryz.underlying230 Tryz.underlying232 Tryz.underlying236 Tryz.underlying244 Tryz.underlying273 Tryz.underlying274 Tryz.underlying276 Tryz.underlying280
attribute [go_sem] Tryz.underlying281 Tryz.underlying283 Tryz.underlying284 Tryz.underlying291 Tryz.underlying303 Tryz.underlying310 Tryz.underlying323 Tryz.underlying331 Tryz.underlying341 Tryz.underlying345 Tryz.underlying346 Tryz.underlying349 Tryz.underlying351 Tryz.underlying353 Tryz.underlying362 Tryz.underlying363 Tryz.underlying364 Tryz.underlying365 Tryz.underlying371 Tryz.underlying390 Tryz.eqGuardType27 Tryz.eqGuardType143 Tryz.eqGuardType146 Tryz.eqGuardType147 Tryz.eqGuardType148 Tryz.eqGuardType149 Tryz.eqGuardType150 Tryz.eqGuardType151 Tryz.eqGuardType152 Tryz.eqGuardType211 Tryz.eqGuardType345 Tryz.eqGuardType346 Tryz.eqGuardType349 Tryz.eqGuardType351
end Go.Proofs.YtjgmdlcjbgiekaaGreatDoor.Ty
namespace Go.Proofs.YtjgmdlcjbgiekaaGreatDoor.Sc
set_option linter.all false
open Pm Ty Go.RowKit
def bs (p:List UInt8):List PV:=p.map fun b=>.int .u8 (b.toNat:Int)
theorem ze (p:List UInt8):(bs p).length=p.length:=by simp [bs]
def byt (p:List UInt8) (k:Nat):Int:=((p.getD k 0).toNat:Int)
theorem zab (p:List UInt8) (k:Nat):0≤byt p k∧byt p k≤255:=by
 unfold byt
 have:=(p.getD k 0).toNat_lt
 omega
theorem zbK (p:List UInt8) (k:Nat) (h:k<p.length):(bs p)[k]? =some (.int .u8 (byt p k)):=by
 simp [bs,byt,h]
theorem znc (p:List UInt8):ze4 (bs p)=some p:=by
 unfold ze4 bs
 induction p with
 | nil=>rfl
 | cons b p ih=>simp [List.mapM_cons,Pm.byteOf,ih]
theorem zau (p q:List UInt8):bs (p++q)=bs p++bs q:=by simp [bs]
theorem zu7 (b:UInt8):bs [b]=[.int .u8 (b.toNat:Int)]:=rfl
theorem zu6 (n:Nat):bs (List.replicate n 0)=List.replicate n (.int .u8 0):=by simp [bs]
theorem zq (n:Nat) (p:List UInt8):∀ x∈bs p,Scoped n x:=fun x hx=>by
 obtain ⟨b,_,rfl⟩:=List.mem_map.1 hx
 exact .int _ _
theorem zr {n k:Nat} {xs:List PV} {f:Bool} (h:∀ x∈xs,Scoped n x):Scoped n (.slice xs k f):=.slice fun j x hx=>h x (List.mem_of_getElem? hx)
theorem zB {n:Nat} {xs:List PV} (h:∀ x∈xs,Scoped n x):Scoped n (.agg xs):=.agg fun j x hx=>h x (List.mem_of_getElem? hx)
theorem _root_.Go.Proofs.YtjgmdlcjbgiekaaGreatDoor.Pm.Fz.id' {n:Nat} {H:za} {x y:PV} (e:x=y) (h:Scoped n y):Fz n H x y:=e▸.id (e▸h)
theorem zu5 (b:List UInt8) (i:Nat) (v:UInt8):(bs b).set i (.int .u8 (v.toNat:Int))=bs (b.set i v):=by
 simp [bs,List.map_set]
theorem zci (p:List UInt8) (k:Nat):(bs p).drop k=bs (p.drop k):=by simp [bs]
theorem zby (p:List UInt8) (k:Nat):(bs p).take k=bs (p.take k):=by simp [bs]
theorem zlT (k:IntKind):∀ (p q:List UInt8),p.length=q.length→zdH (.int k) (bs p) (bs q)=some (p==q)
 | [],[],_=>rfl
 | a::p,b::q,h=>by
  have ih:=zlT k p q (by simpa using h)
  have e:((a.toNat:Int)==(b.toNat:Int))=(a==b):=by
   rw [Bool.eq_iff_iff];simp only [beq_iff_eq]
   exact ⟨fun h=>UInt8.toNat_inj.1 (by omega),fun h=>by rw [h]⟩
  show (match zcQ (.int k) (.int .u8 (a.toNat:Int)) (.int .u8 (b.toNat:Int)) with|some c=>(zdH (.int k) (bs p) (bs q)).map fun r=>c&&r|none=>none)=_
  rw [ih]
  simp only [zcQ,if_true,Option.map_some,e]
  rfl
 | [],_::_,h=>by simp at h
 | _::_,[],h=>by simp at h
theorem zec (a b:Int): -(a.natAbs:Int)≤a.tdiv b∧a.tdiv b≤(a.natAbs:Int):=by
 have h:(a.tdiv b).natAbs≤a.natAbs:=by rw [Int.natAbs_tdiv];exact Nat.div_le_self _ _
 omega
theorem zkk (a b:Int) (h: -9223372036854775807≤a∧a≤9223372036854775807):IntKind.i64.wrap (a.tdiv b)=a.tdiv b:=by
 have:=zec a b
 exact w64 _ (by omega)
theorem znR (x y:Nat):(x:Int).tmod (y:Int)=((x%y:Nat):Int):=by rw [Int.tmod_eq_emod_of_nonneg (by omega)];rfl
theorem zs5 (a b:Nat):(a:Int).tdiv (b:Int)=((a / b:Nat):Int):=rfl
theorem zx (a b:Int) (h:0≤a):a.tdiv b=a / b:=Int.tdiv_eq_ediv_of_nonneg h
theorem zP (a b:Int) (h:0≤a):a.tmod b=a%b:=Int.tmod_eq_emod_of_nonneg h
theorem zqR (n:Int) (h:0≤n∧n≤18446744073709551615):IntKind.u64.wrap n=n:=by
 simp only [IntKind.wrap,IntKind.bits,IntKind.signed,Bool.false_and,Bool.false_eq_true,if_false]
 omega
theorem zvq (n:Int) (h: -18446744073709551616≤n∧n<0):IntKind.u64.wrap n=n+18446744073709551616:=by
 simp only [IntKind.wrap,IntKind.bits,IntKind.signed,Bool.false_and,Bool.false_eq_true,if_false]
 omega
def is (l:List Int):List PV:=l.map fun n=>.int .i64 n
theorem zu (l:List Int):(is l).length=l.length:=by simp [is]
def zh (l:List Int) (k:Nat):Int:=l.getD k 0
theorem zbq (l:List Int) (i:Nat) (h:i<l.length):(is l)[i]? =some (.int .i64 (zh l i)):=by simp [is,zh,h]
theorem zhF (p q:List Int):is (p++q)=is p++is q:=by simp [is]
theorem zat (n:Nat) (p:List Int):∀ x∈is p,Scoped n x:=fun x hx=>by
 obtain ⟨b,_,rfl⟩:=List.mem_map.1 hx
 exact .int _ _
theorem zbJ (b:List Int) (i:Nat) (v:Int):(is b).set i (.int .i64 v)=is (b.set i v):=by simp [is,List.map_set]
theorem zev (p:List Int) (k:Nat):(is p).drop k=is (p.drop k):=by simp [is]
theorem zdy (p:List Int) (k:Nat):(is p).take k=is (p.take k):=by simp [is]
theorem zfP (k:IntKind):∀ (p q:List Int),p.length=q.length→zdH (.int k) (is p) (is q)=some (p==q)
 | [],[],_=>rfl
 | a::p,b::q,h=>by
  have ih:=zfP k p q (by simpa using h)
  show (match zcQ (.int k) (.int .i64 a) (.int .i64 b) with|some c=>(zdH (.int k) (is p) (is q)).map fun r=>c&&r|none=>none)=_
  rw [ih]
  simp only [zcQ,if_true,Option.map_some]
  rfl
 | [],_::_,h=>by simp at h
 | _::_,[],h=>by simp at h
def fs (l:List Bool):List PV:=l.map fun b=>.bool b
theorem zuG (l:List Bool):(fs l).length=l.length:=by simp [fs]
def zaB (l:List Bool) (k:Nat):Bool:=l.getD k false
theorem zk8 (l:List Bool) (i:Nat) (h:i<l.length):(fs l)[i]? =some (.bool (zaB l i)):=by simp [fs,zaB,h]
theorem zhI (n:Nat) (p:List Bool):∀ x∈fs p,Scoped n x:=fun x hx=>by
 obtain ⟨b,_,rfl⟩:=List.mem_map.1 hx
 exact .bool _
theorem zwI (a b:Nat):(a:Int).fdiv (b:Int)=((a / b:Nat):Int):=by
 rw [Int.fdiv_eq_ediv_of_nonneg _ (by omega)];rfl
theorem zrw (k':IntKind) (V s:Nat) (h:s≤8):zbb .shr .u8 (V:Int) k' (s:Int)=some (.int .u8 ((V / 2^s:Nat):Int)):=by
 simp only [zbb,IntKind.bits]
 rw [if_neg (by omega),show min (s:Int).toNat 8=s by omega,show ((2:Int)^s)=((2^s:Nat):Int) by simp,zwI]
theorem zpi (V:Nat):zbb .and .u8 (V:Int) .u8 1=some (.int .u8 ((V%2:Nat):Int)):=by
 have h0:(BitVec.ofInt 8 (V:Int)&&& BitVec.ofInt 8 1).toNat=V%2:=by
  rw [BitVec.ofInt_natCast,BitVec.toNat_and,BitVec.toNat_ofNat,show (BitVec.ofInt 8 1).toNat=1 by decide,Nat.and_one_is_mod]
  omega
 have:(BitVec.ofInt IntKind.u8.bits (V:Int)&&& BitVec.ofInt IntKind.u8.bits 1).toNat=V%2:=h0
 simp only [zbb,this,if_true]
 rw [w8 _ (by omega)]
def mbs (n most:Int):Bool:=decide (16≤n)&&decide (n≤most)&&(n.tmod 16==0)
theorem zgN (n most:Int) (H:za):CallOk Tryz.prog 201 [.int .i64 n,.int .i64 most] H (.bool (mbs n most)) H:=by
 refine CallOk.body (F0:=[(0,.int .i64 n),(1,.int .i64 most)]) Tryz.func201 rfl Tryz.ntmps201 Tryz.results201 rfl (by kernel_rfl) rfl ?_
 refine PW.e ?_
 (repeat refine PW.seq ?_);refine PW.rg rfl fun K hK=> ?_;simp (disch:=omega) only [go_sem,↓reduceIte,reduceCtorEq];(repeat' ((first|refine zk ?_ ?_|refine zn ?_ ?_|refine zT ?_ ?_|refine zS ?_ ?_|refine zR ?_ ?_|refine And.intro ?_ ?_)<;>intro h<;>(try simp only [nqb] at h)<;>simp (disch:=omega) only [go_sem,↓reduceIte,reduceCtorEq,h]))
 all_goals (refine hK _ _ ?_;clear hK K)
 all_goals (refine PW.ret ⟨_,rfl,.inl ⟨?_,rfl⟩⟩;simp_all [mbs,slot,Nat.beq];try omega)
theorem zuF (x y:Nat) (H:za):CallOk Tryz.prog 282 [.int .u64 (x:Int),.int .u64 (y:Int)] H (.int .u64 (Nat.gcd x y:Int)) H:=by
 generalize hr:Nat.gcd x y=r
 refine CallOk.body (F0:=[(0,.int .u64 (x:Int)),(1,.int .u64 (y:Int))]) Tryz.func282 rfl Tryz.ntmps282 Tryz.results282 rfl (by kernel_rfl) rfl ?_
 refine PW.e ?_
 (repeat refine PW.seq ?_);refine PW.block (PW.loop ?_)
 refine PL.at [0,1] (?_:PL _ _ _ [(0,.int .u64 (x:Int)),(1,.int .u64 (y:Int))] H _) rfl rfl
 induction hm:y using Nat.strongRecOn generalizing x y with
 | _ n ih=>
  subst hm
  refine PL.round ?_;refine PW.e ?_
  (repeat refine PW.seq ?_);refine PW.cond (t:=_) rfl (fun h=> ?_) (fun h=> ?_)
  ·have hy:y≠0:=by intro e;subst e;simp at h
   refine PW.skip ?_;(repeat refine PW.seq ?_);refine PW.block ?_;(repeat refine PW.seq ?_);refine PW.draw mix (by kernel_rfl) fun K hK=> ?_;simp (disch:=omega) only [go_sem,↓reduceIte,reduceCtorEq,znR];refine hK _ _ ?_;clear hK K
   exact PL.at [0,1] (ih (x%y) (Nat.mod_lt _ (by omega)) y (x%y) (by rw [←hr,Nat.gcd_comm x y,Nat.gcd_rec y x,Nat.gcd_comm]) rfl) rfl rfl
  ·have hy:y=0:=by simpa using h
   subst hy
   refine PW.exit ?_
   refine PW.e ?_
   exact PW.ret ⟨_,rfl,.inl ⟨by rw [←hr,Nat.gcd_zero_right];rfl,rfl⟩⟩
theorem zrY (n:Int) (H:za) (hn: -9223372036854775808≤n∧n≤9223372036854775807):CallOk Tryz.prog 283 [.int .i64 n] H (.int .u64 (n.natAbs:Int)) H:=by
 refine CallOk.body (F0:=[(0,.int .i64 n)]) Tryz.func283 rfl Tryz.ntmps283 Tryz.results283 rfl (by kernel_rfl) rfl ?_
 refine PW.e ?_
 refine PW.e ?_
 (repeat refine PW.seq ?_);refine PW.cond (t:=_) rfl (fun h=> ?_) (fun h=> ?_)
 ·have h1:=of_decide_eq_true h
  refine PW.f (fun K k=>by simp (disch:=omega) only [go_sem,↓reduceIte,reduceCtorEq,zvq];exact k) ?_
  refine PW.ret ⟨_,rfl,.inl ⟨?_,rfl⟩⟩
  have e:(n.natAbs:Int)=0 - (n+18446744073709551616)+18446744073709551616:=by omega
  rw [e];rfl
 ·have h1:=of_decide_eq_false h
  refine PW.skip ?_
  refine PW.f (fun K k=>by simp (disch:=omega) only [go_sem,↓reduceIte,reduceCtorEq,zqR];exact k) ?_
  refine PW.ret ⟨_,rfl,.inl ⟨?_,rfl⟩⟩
  have e:(n.natAbs:Int)=n:=by omega
  rw [e];rfl
def zgx (num den:Int):Bool:=decide (1≤den)&&decide (-9223372036854775808<num)&&(Nat.gcd num.natAbs den.natAbs==1)
theorem zgw (num den:Int) (H:za) (hn: -9223372036854775808≤num∧num≤9223372036854775807) (hd: -9223372036854775808≤den∧den≤9223372036854775807):
  CallOk Tryz.prog 202 [.agg [.int .i64 num,.int .i64 den]] H (.bool (zgx num den)) H:=by
 generalize hr:zgx num den=r
 refine CallOk.body (F0:=[(0,.agg [.int .i64 num,.int .i64 den])]) Tryz.func202 rfl Tryz.ntmps202 Tryz.results202 rfl (by kernel_rfl) rfl ?_
 refine PW.e ?_
 (repeat refine PW.seq ?_);refine PW.draw mix (by kernel_rfl) fun K hK=> ?_;simp (disch:=omega) only [go_sem,↓reduceIte,reduceCtorEq,zqR];(repeat' ((first|refine zk ?_ ?_|refine zn ?_ ?_|refine zT ?_ ?_|refine zS ?_ ?_|refine zR ?_ ?_|refine And.intro ?_ ?_)<;>intro h<;>(try simp only [nqb] at h)<;>simp (disch:=omega) only [go_sem,↓reduceIte,reduceCtorEq,zqR,h]))
 ·rename_i h1
  have e:den=((den.natAbs:Nat):Int):=by omega
  have hg:=zuF num.natAbs den.natAbs (H++[⟨26,0,[.int .i64 num,.int .i64 den]⟩])
  rw [←e] at hg
  refine VCy.call (zrY _ _ hn) rfl ?_;simp (disch:=omega) only [go_sem,↓reduceIte,reduceCtorEq,zqR];refine VCy.call (hg) rfl ?_;simp (disch:=omega) only [go_sem,↓reduceIte,reduceCtorEq]
  refine hK _ _ ?_;clear hK K
  refine PW.ret ⟨_,rfl,Fin.base (.id' ?_ (.bool _))⟩
  rw [←hr]
  simp [zgx,slot,Nat.beq,h,h1]
  rw [Bool.eq_iff_iff];simp;omega
 all_goals (refine hK _ _ ?_;clear hK K)
 all_goals (refine PW.ret ⟨_,rfl,Fin.base (.id' ?_ (.bool _))⟩;rw [←hr];simp_all [zgx,slot,Nat.beq];try omega)
structure Sq where
 w:Int
 h:Int
 num:Int
 den:Int
 il:Bool
 br:Int
 bf:Int
 ia:List UInt8
 ie:List UInt8
def sqc (s:Sq):List PV:=.int .i64 s.w:: .int .i64 s.h:: .int .i64 s.num:: .int .i64 s.den:: .bool s.il:: .int .i64 s.br:: .int .i64 s.bf::(bs s.ia++bs s.ie)
def zgS (n:Int):Prop:= -9223372036854775808≤n∧n≤9223372036854775807
structure SqOk (s:Sq):Prop where
 w: -9223372036854775808≤s.w∧s.w≤9223372036854775807
 h: -9223372036854775808≤s.h∧s.h≤9223372036854775807
 num: -9223372036854775808≤s.num∧s.num≤9223372036854775807
 den: -9223372036854775808≤s.den∧s.den≤9223372036854775807
 br: -9223372036854775808≤s.br∧s.br≤9223372036854775807
 bf: -9223372036854775808≤s.bf∧s.bf≤9223372036854775807
 ia:s.ia.length=64
 ie:s.ie.length=64
theorem zbn (n:Nat) (s:Sq):∀ x∈sqc s,Scoped n x:=fun x hx=>by
 simp only [sqc,List.mem_cons,List.mem_append] at hx
 rcases hx with rfl|rfl|rfl|rfl|rfl|rfl|rfl|hx|hx
 all_goals first|exact .int _ _|exact .bool _|exact zq n _ x hx
theorem zji (p q:List UInt8) (h:p.length=64):(bs p++bs q).take 64=bs p:=by
 rw [List.take_append_of_le_length (by rw [ze];omega),List.take_of_length_le (by rw [ze];omega)]
theorem zjh (p q:List UInt8) (h:p.length=64):(bs p++bs q).drop 64=bs q:=by
 rw [List.drop_append_of_le_length (by rw [ze];omega),List.drop_of_length_le (by rw [ze];omega),List.nil_append]
theorem zhw (q:List UInt8) (h:q.length=64):(bs q).take 64=bs q:=List.take_of_length_le (by rw [ze];omega)
theorem zoj (p q:List UInt8) (h:p.length=64) (h':q.length=64):(bs p++bs q).take 128=bs p++bs q:=List.take_of_length_le (by rw [List.length_append,ze,ze];omega)
def zb2 (m:List UInt8):Bool:=m.all fun b=>decide (8≤b.toNat)
theorem zrN (m:List UInt8) (k:Nat) (hk:k≤m.length):(m.drop k).all (fun b=>decide (8≤b.toNat))=if k<m.length then decide (8≤byt m k)&&(m.drop (k+1)).all (fun b=>decide (8≤b.toNat)) else true:=by
 split
 ·rename_i h
  rw [List.drop_eq_getElem_cons h,List.all_cons]
  congr 1
  simp [byt,h]
  omega
 ·rw [List.drop_of_length_le (by omega)];rfl
theorem zjO (m:List UInt8) (H:za) (hl:m.length=64):CallOk Tryz.prog 133 [.agg (bs m)] H (.bool (zb2 m)) H:=by
 refine CallOk.body (F0:=[(0,.agg (bs m))]) Tryz.func133 rfl Tryz.ntmps133 Tryz.results133 rfl (by kernel_rfl) rfl ?_
 have hall:(bs m).all PV.cell=true:=by simp [bs,PV.cell]
 refine PW.f (fun K k=>by simp (disch:=omega) only [go_sem,↓reduceIte,reduceCtorEq,hall];exact k) ?_
 refine PW.f (fun K k=>by simp (disch:=omega) only [go_sem,↓reduceIte,reduceCtorEq,ze,zhw];exact k) ?_
 (repeat refine PW.seq ?_);refine PW.block (PW.loop ?_)
 suffices hloop:∀ (k:Nat),k≤64→zb2 m=(m.drop k).all (fun b=>decide (8≤b.toNat))→PL Tryz.prog _ _ [(5,.agg (bs m)),(6,.int .i64 (k:Int))] (H++[⟨27,0,bs m⟩]) _ by
  exact PL.at [5,6] (hloop 0 (by omega) (by simp [zb2])) rfl rfl
 intro k hk heq
 induction hm:64 - k using Nat.strongRecOn generalizing k with
 | _ n ih=>
  rw [zrN m k (by omega)] at heq
  refine PL.round ?_;refine PW.e ?_
  (repeat refine PW.seq ?_);refine PW.cond (t:=_) rfl (fun h=> ?_) (fun h=> ?_)
  ·have h4:k<64:=by have:=of_decide_eq_true h;omega
   rw [if_pos (by omega)] at heq
   refine PW.skip ?_;(repeat refine PW.seq ?_);refine PW.block ?_
   refine PW.f (fun K k=>by simp (disch:=omega) only [go_sem,↓reduceIte,reduceCtorEq,zbK];exact k) ?_
   refine PW.e ?_
   (repeat refine PW.seq ?_);refine PW.cond (t:=_) rfl (fun h=> ?_) (fun h=> ?_)
   ·have h5:=of_decide_eq_true h
    refine PW.e ?_
    refine PW.ret ⟨_,rfl,Fin.base (.id' ?_ (.bool _))⟩
    rw [heq]
    simp [slot,Nat.beq];omega
   ·have h5:=of_decide_eq_false h
    refine PW.skip ?_
    refine PW.e ?_
    refine PL.at [5,6] (ih (64 - (k+1)) (by omega) (k+1) (by omega) ?_ rfl) rfl rfl
    rw [heq];simp;omega
  ·have h4:¬ k<64:=by have:=of_decide_eq_false h;omega
   rw [if_neg (by omega)] at heq
   refine PW.exit ?_
   refine PW.e ?_
   refine PW.ret ⟨_,rfl,Fin.base (.id' ?_ (.bool _))⟩
   rw [heq];rfl
def vsz (s:Sq):Bool:=mbs s.w 64&&mbs s.h 64&&(!s.il||(s.h.tmod 32==0))
def vrt (s:Sq):Bool:=zgx s.num s.den&&decide (1≤s.num)&&decide (s.num≤1048576)&&decide (s.den≤65536)
def vbr (s:Sq):Bool:=decide (1≤s.br)&&decide (s.br≤16777216)&&decide (1≤s.bf)&&decide (s.bf≤8388608)
def vbu (s:Sq):Bool:=decide (3 * s.den * s.br+32 * s.num≤2 * s.num * s.bf)
def zc7 (s:Sq):Bool:=vsz s&&(vrt s&&(vbr s&&(vbu s&&(zb2 s.ia&&zb2 s.ie))))
theorem zmX {num den:Int} (h:zgx num den=true):1≤den:=by simp [zgx] at h;exact h.1.1
theorem zlQ {a b:Int} {A B:Int} (ha:0≤a) (hA:a≤A) (hb:0≤b) (hB:b≤B):0≤a * b∧a * b≤A * B:=
 ⟨Int.mul_nonneg ha hb,Int.mul_le_mul hA hB hb (Int.le_trans ha hA)⟩
theorem zhT (s:Sq) (H:za) (hs:SqOk s):CallOk Tryz.prog 126 [.agg (sqc s)] H (.bool (zc7 s)) H:=by
 obtain ⟨hw,hh,hnum,hden,hbr,hbf,hia,hie⟩:=hs
 have hall:(bs s.ia++bs s.ie).all PV.cell=true:=by simp [bs,PV.cell]
 refine CallOk.body (F0:=[(0,.agg (sqc s))]) Tryz.func126 rfl Tryz.ntmps126 Tryz.results126 rfl (by kernel_rfl) rfl ?_
 refine PW.f (fun K k=>by simp (disch:=omega) only [go_sem,↓reduceIte,reduceCtorEq,sqc,hall];exact k) ?_
 refine PW.seq (PW.seq (PW.rgv [1] 22 (.bool (!vsz s)) rfl ?_ ?_))
 ·simp (disch:=omega) only [go_sem,↓reduceIte,reduceCtorEq];(repeat' (first|((first|refine zk ?_ ?_|refine zn ?_ ?_|refine zT ?_ ?_|refine zS ?_ ?_|refine zR ?_ ?_|refine And.intro ?_ ?_)<;>intro h<;>(try simp only [nqb] at h)<;>simp (disch:=omega) only [go_sem,↓reduceIte,reduceCtorEq,h])|((first|refine VCx.call (zgN _ _ _) rfl ?_|refine VCy.call (zgN _ _ _) rfl ?_|refine VCz.call (fun _=>zgN _ _ _) rfl ?_|refine VCk.call (fun _ _=>zgN _ _ _) rfl ?_|refine VCj.now (zgN _ _ _) rfl ?_);simp (disch:=omega) only [go_sem,↓reduceIte,reduceCtorEq])))
  all_goals (simp_all [vsz,slot,Nat.beq]<;>first|rfl|omega|(rw [Bool.eq_iff_iff];simp;done)|(rw [Bool.eq_iff_iff];simp;omega))
 (repeat refine PW.seq ?_);refine PW.cond (t:=_) rfl (fun h=> ?_) (fun h=> ?_)
 ·have h1:vsz s=false:=by simpa using h
  refine PW.e ?_
  exact PW.ret ⟨_,rfl,Fin.base (.id' (by simp [zc7,h1,slot,Nat.beq]) (.bool _))⟩
 have h1:vsz s=true:=by simpa using h
 refine PW.skip (PW.seq (PW.seq (PW.rgv [1] 44 (.bool (!vrt s)) rfl ?_ ?_)))
 ·simp (disch:=omega) only [go_sem,↓reduceIte,reduceCtorEq];(repeat' (first|((first|refine zk ?_ ?_|refine zn ?_ ?_|refine zT ?_ ?_|refine zS ?_ ?_|refine zR ?_ ?_|refine And.intro ?_ ?_)<;>intro h<;>(try simp only [nqb] at h)<;>simp (disch:=omega) only [go_sem,↓reduceIte,reduceCtorEq,h])|((first|refine VCx.call (zgw _ _ _ hnum hden) rfl ?_|refine VCy.call (zgw _ _ _ hnum hden) rfl ?_|refine VCz.call (fun _=>zgw _ _ _ hnum hden) rfl ?_|refine VCk.call (fun _ _=>zgw _ _ _ hnum hden) rfl ?_|refine VCj.now (zgw _ _ _ hnum hden) rfl ?_);simp (disch:=omega) only [go_sem,↓reduceIte,reduceCtorEq])))
  all_goals (simp_all [vrt,slot,Nat.beq]<;>first|rfl|omega|(rw [Bool.eq_iff_iff];simp;done)|(rw [Bool.eq_iff_iff];simp;omega))
 (repeat refine PW.seq ?_);refine PW.cond (t:=_) rfl (fun h=> ?_) (fun h=> ?_)
 ·have h2:vrt s=false:=by simpa using h
  refine PW.e ?_
  exact PW.ret ⟨_,rfl,Fin.base (.id' (by simp [zc7,h1,h2,slot,Nat.beq]) (.bool _))⟩
 have h2:vrt s=true:=by simpa using h
 refine PW.skip (PW.seq (PW.seq (PW.rgv [1] 62 (.bool (!vbr s)) rfl ?_ ?_)))
 ·simp (disch:=omega) only [go_sem,↓reduceIte,reduceCtorEq];(repeat' ((first|refine zk ?_ ?_|refine zn ?_ ?_|refine zT ?_ ?_|refine zS ?_ ?_|refine zR ?_ ?_|refine And.intro ?_ ?_)<;>intro h<;>(try simp only [nqb] at h)<;>simp (disch:=omega) only [go_sem,↓reduceIte,reduceCtorEq,h]))
  all_goals (simp_all [vbr,slot,Nat.beq]<;>first|rfl|omega|(rw [Bool.eq_iff_iff];simp;done)|(rw [Bool.eq_iff_iff];simp;omega))
 (repeat refine PW.seq ?_);refine PW.cond (t:=_) rfl (fun h=> ?_) (fun h=> ?_)
 ·have h3:vbr s=false:=by simpa using h
  refine PW.e ?_
  exact PW.ret ⟨_,rfl,Fin.base (.id' (by simp [zc7,h1,h2,h3,slot,Nat.beq]) (.bool _))⟩
 have h3:vbr s=true:=by simpa using h
 have h2':=h2
 have h3':=h3
 simp only [vrt,vbr,Bool.and_eq_true,decide_eq_true_eq] at h2' h3'
 have hdp:=zmX h2'.1.1.1
 have hb1:=zlQ (a:=2 * s.num) (b:=s.bf) (A:=2097152) (B:=8388608) (by omega) (by omega) (by omega) (by omega)
 have hb2:=zlQ (a:=3 * s.den) (b:=s.br) (A:=196608) (B:=16777216) (by omega) (by omega) (by omega) (by omega)
 refine PW.skip ?_
 refine PW.e ?_
 (repeat refine PW.seq ?_);refine PW.cond (t:=_) rfl (fun h=> ?_) (fun h=> ?_)
 ·have h4:vbu s=false:=by have:=of_decide_eq_true h;simp [vbu];omega
  refine PW.e ?_
  exact PW.ret ⟨_,rfl,Fin.base (.id' (by simp [zc7,h1,h2,h3,h4,slot,Nat.beq]) (.bool _))⟩
 have h4:vbu s=true:=by have:=of_decide_eq_false h;simp [vbu];omega
 refine PW.skip ?_
 (repeat refine PW.seq ?_);refine PW.rg rfl fun K hK=> ?_;simp (disch:=omega) only [go_sem,↓reduceIte,reduceCtorEq,zji,zjh,zhw,List.length_append,ze];(repeat' (first|((first|refine zk ?_ ?_|refine And.intro ?_ ?_)<;>intro h<;>(try simp only [nqb] at h)<;>simp (disch:=omega) only [go_sem,↓reduceIte,reduceCtorEq,zji,zjh,zhw,List.length_append,ze,h])|((first|refine VCx.call (zjO _ _ hia) rfl ?_|refine VCx.call (zjO _ _ hie) rfl ?_);simp (disch:=omega) only [go_sem,↓reduceIte,reduceCtorEq,zji,zjh,zhw,List.length_append,ze])))
 all_goals (refine hK _ _ ?_;clear hK K)
 all_goals exact PW.ret ⟨_,rfl,Fin.base (.id' (by simp_all [zc7,slot,Nat.beq]) (.bool _))⟩
structure Pi where
 ty:Int
 st:Int
 od:Int
 tf:Bool
 rp:Bool
 al:Bool
def pic (h:Pi):List PV:=[.int .i64 h.ty,.int .i64 h.st,.int .i64 h.od,.bool h.tf,.bool h.rp,.bool h.al]
def zsz (h:Pi):Bool:=decide (0≤h.od)&&decide (h.od≤1023)&&decide (1≤h.ty)&&decide (h.ty≤3)&&decide (1≤h.st)&&decide (h.st≤3)
theorem zmt (h:Pi) (H:za):CallOk Tryz.prog 127 [.agg (pic h)] H (.bool (zsz h)) H:=by
 obtain ⟨ty,st,od,tf,rp,al⟩:=h
 refine CallOk.body (F0:=[(0,.agg (pic ⟨ty,st,od,tf,rp,al⟩))]) Tryz.func127 rfl Tryz.ntmps127 Tryz.results127 rfl (by kernel_rfl) rfl ?_
 (repeat' (first|refine PW.seq ?_|refine PW.skip ?_|refine PW.block ?_|((first|refine PW.rg rfl fun K hK=> ?_|refine PW.draw mix (by kernel_rfl) fun K hK=> ?_);simp (disch:=omega) only [go_sem,↓reduceIte,reduceCtorEq,pic])|((first|refine zk ?_ ?_|refine zn ?_ ?_|refine And.intro ?_ ?_)<;>intro h<;>(try simp only [nqb] at h)<;>simp (disch:=omega) only [go_sem,↓reduceIte,reduceCtorEq,pic,h])|(refine hK _ _ ?_;clear hK K)|(refine PW.cond (t:=_) rfl (fun h=> ?_) (fun h=> ?_)<;>(try (cases h;done))<;>(try simp only [nqb] at h))))
 all_goals ((refine PW.ret ⟨_,rfl,?_⟩;first|refine .inl ⟨?_,rfl⟩|refine Fin.base (.id' ?_ (.bool _))|refine Fin.base (.id' ?_ (.int _ _)));(simp_all [zsz,slot,Nat.beq]<;>first|rfl|omega|(rw [Bool.eq_iff_iff];simp;done)|(rw [Bool.eq_iff_iff];simp;omega)))
def zM (s:Sq) (p:Pi):Bool:=zc7 s&&zsz p&&(s.il||((p.st==3)&&p.tf&& !p.rp))
theorem zcw (s:Sq) (p:Pi) (H:za) (hs:SqOk s):CallOk Tryz.prog 67 [.agg (sqc s),.agg (pic p)] H (.bool (zM s p)) H:=by
 have hall:(bs s.ia++bs s.ie).all PV.cell=true:=by simp [bs,PV.cell]
 have hlen:(bs s.ia++bs s.ie).length=128:=by simp [ze,hs.ia,hs.ie]
 have htk:=zoj s.ia s.ie hs.ia hs.ie
 refine CallOk.body (F0:=[(0,.agg (sqc s)),(1,.agg (pic p))]) Tryz.func67 rfl Tryz.ntmps67 Tryz.results67 rfl (by kernel_rfl) rfl ?_
 (repeat' (first|refine PW.seq ?_|refine PW.skip ?_|refine PW.block ?_|((first|refine PW.rg rfl fun K hK=> ?_|refine PW.draw mix (by kernel_rfl) fun K hK=> ?_);simp (disch:=omega) only [go_sem,↓reduceIte,reduceCtorEq,sqc,pic,hall,hlen,htk])|((first|refine zk ?_ ?_|refine zn ?_ ?_|refine And.intro ?_ ?_)<;>intro h<;>(try simp only [nqb] at h)<;>simp (disch:=omega) only [go_sem,↓reduceIte,reduceCtorEq,sqc,pic,hall,hlen,htk,h])|((first|refine VCx.call (zhT s _ hs) rfl ?_|refine VCx.call (zmt p _) rfl ?_|refine VCy.call (zhT s _ hs) rfl ?_|refine VCy.call (zmt p _) rfl ?_);simp (disch:=omega) only [go_sem,↓reduceIte,reduceCtorEq,sqc,pic,hall,hlen,htk])|(refine hK _ _ ?_;clear hK K)|(refine PW.cond (t:=_) rfl (fun h=> ?_) (fun h=> ?_)<;>(try (cases h;done))<;>(try simp only [nqb] at h))))
 all_goals ((refine PW.ret ⟨_,rfl,?_⟩;first|refine .inl ⟨?_,rfl⟩|refine Fin.base (.id' ?_ (.bool _))|refine Fin.base (.id' ?_ (.int _ _)));(simp_all [zM,slot,Nat.beq]<;>first|rfl|omega|(rw [Bool.eq_iff_iff];simp;done)|(rw [Bool.eq_iff_iff];simp;omega)))
theorem ztB {s:Sq} (h:zc7 s=true):16≤s.h∧s.h≤64∧16≤s.w∧s.w≤64:=by
 simp [zc7,vsz,mbs] at h
 omega
theorem za9 {s:Sq} {p:Pi} (hv:zM s p=true):16≤s.h∧s.h≤64∧16≤s.w∧s.w≤64:=by
 simp only [zM,Bool.and_eq_true] at hv
 exact ztB hv.1.1
def hgt (s:Sq) (p:Pi):Int:=if p.st=3 then s.h else s.h.tdiv 2
theorem zk5 (s:Sq) (p:Pi) (H:za) (hs:SqOk s) (hv:0≤s.h):CallOk Tryz.prog 112 [.agg (sqc s),.agg (pic p)] H (.int .i64 (hgt s p)) H:=by
 have hall:(bs s.ia++bs s.ie).all PV.cell=true:=by simp [bs,PV.cell]
 have hlen:(bs s.ia++bs s.ie).length=128:=by simp [ze,hs.ia,hs.ie]
 have hh:=hs.h
 refine CallOk.body (F0:=[(0,.agg (sqc s)),(1,.agg (pic p))]) Tryz.func112 rfl Tryz.ntmps112 Tryz.results112 rfl (by kernel_rfl) rfl ?_
 (repeat' (first|refine PW.seq ?_|refine PW.skip ?_|refine PW.block ?_|((first|refine PW.rg rfl fun K hK=> ?_|refine PW.draw mix (by kernel_rfl) fun K hK=> ?_);simp (disch:=omega) only [go_sem,↓reduceIte,reduceCtorEq,sqc,pic,hall,hlen,zkk])|((first|refine zk ?_ ?_|refine zn ?_ ?_|refine And.intro ?_ ?_)<;>intro h<;>(try simp only [nqb] at h)<;>simp (disch:=omega) only [go_sem,↓reduceIte,reduceCtorEq,sqc,pic,hall,hlen,zkk,h])|(refine hK _ _ ?_;clear hK K)|(refine PW.cond (t:=_) rfl (fun h=> ?_) (fun h=> ?_)<;>(try (cases h;done))<;>(try simp only [nqb] at h))))
 all_goals ((refine PW.ret ⟨_,rfl,?_⟩;first|refine .inl ⟨?_,rfl⟩|refine Fin.base (.id' ?_ (.bool _))|refine Fin.base (.id' ?_ (.int _ _)));(simp_all [hgt,slot,Nat.beq]<;>first|rfl|omega|(rw [Bool.eq_iff_iff];simp;done)|(rw [Bool.eq_iff_iff];simp;omega)))
def za4 (s:Sq) (p:Pi):Int:=if zM s p then (if p.st=3 then s.h.tdiv 16 else s.h.tdiv 32) else 0
theorem zjs (s:Sq) (p:Pi) (H:za) (hs:SqOk s):CallOk Tryz.prog 58 [.agg (sqc s),.agg (pic p)] H (.int .i64 (za4 s p)) H:=by
 have hall:(bs s.ia++bs s.ie).all PV.cell=true:=by simp [bs,PV.cell]
 have hlen:(bs s.ia++bs s.ie).length=128:=by simp [ze,hs.ia,hs.ie]
 have htk:=zoj s.ia s.ie hs.ia hs.ie
 refine CallOk.body (F0:=[(0,.agg (sqc s)),(1,.agg (pic p))]) Tryz.func58 rfl Tryz.ntmps58 Tryz.results58 rfl (by kernel_rfl) rfl ?_
 cases hp:zM s p with
 | false=>
  have hpv:=fun H=>zcw s p H hs
  rw [hp] at hpv
  (repeat' (first|refine PW.seq ?_|refine PW.skip ?_|refine PW.block ?_|((first|refine PW.rg rfl fun K hK=> ?_|refine PW.draw mix (by kernel_rfl) fun K hK=> ?_);simp (disch:=omega) only [go_sem,↓reduceIte,reduceCtorEq,sqc,pic,hall,hlen,htk])|((first|refine zk ?_ ?_|refine zn ?_ ?_|refine And.intro ?_ ?_)<;>intro h<;>(try simp only [nqb] at h)<;>simp (disch:=omega) only [go_sem,↓reduceIte,reduceCtorEq,sqc,pic,hall,hlen,htk,h])|((first|refine VCx.call (hpv _) rfl ?_|refine VCy.call (hpv _) rfl ?_);simp (disch:=omega) only [go_sem,↓reduceIte,reduceCtorEq,sqc,pic,hall,hlen,htk])|(refine hK _ _ ?_;clear hK K)|(refine PW.cond (t:=_) rfl (fun h=> ?_) (fun h=> ?_)<;>(try (cases h;done))<;>(try simp only [nqb] at h))))
  all_goals ((refine PW.ret ⟨_,rfl,?_⟩;first|refine .inl ⟨?_,rfl⟩|refine Fin.base (.id' ?_ (.bool _))|refine Fin.base (.id' ?_ (.int _ _)));simp [za4,hp,slot,Nat.beq])
 | true=>
  have hpv:=fun H=>zcw s p H hs
  rw [hp] at hpv
  have hh:=za9 hp
  have hg:0≤hgt s p∧hgt s p≤64:=by
   unfold hgt;rw [zx _ _ (by omega)];split<;>omega
  (repeat' (first|refine PW.seq ?_|refine PW.skip ?_|refine PW.block ?_|((first|refine PW.rg rfl fun K hK=> ?_|refine PW.draw mix (by kernel_rfl) fun K hK=> ?_);simp (disch:=omega) only [go_sem,↓reduceIte,reduceCtorEq,sqc,pic,hall,hlen,htk,zkk])|((first|refine zk ?_ ?_|refine zn ?_ ?_|refine And.intro ?_ ?_)<;>intro h<;>(try simp only [nqb] at h)<;>simp (disch:=omega) only [go_sem,↓reduceIte,reduceCtorEq,sqc,pic,hall,hlen,htk,zkk,h])|((first|refine VCx.call (hpv _) rfl ?_|refine VCx.call (zk5 s p _ hs (by omega)) rfl ?_|refine VCy.call (hpv _) rfl ?_|refine VCy.call (zk5 s p _ hs (by omega)) rfl ?_);simp (disch:=omega) only [go_sem,↓reduceIte,reduceCtorEq,sqc,pic,hall,hlen,htk,zkk])|(refine hK _ _ ?_;clear hK K)|(refine PW.cond (t:=_) rfl (fun h=> ?_) (fun h=> ?_)<;>(try (cases h;done))<;>(try simp only [nqb] at h))))
  all_goals ((refine PW.ret ⟨_,rfl,?_⟩;first|refine .inl ⟨?_,rfl⟩|refine Fin.base (.id' ?_ (.bool _))|refine Fin.base (.id' ?_ (.int _ _)));simp [za4,hp,slot,Nat.beq])
  simp only [hgt,zx _ _ (show 0≤s.h by omega)]
  rw [zx _ _ (by split<;>omega)]
  split<;>omega
end Go.Proofs.YtjgmdlcjbgiekaaGreatDoor.Sc
namespace Go.Proofs.YtjgmdlcjbgiekaaGreatDoor.Lp
set_option linter.all false
open Go.ChangeShapes Go.WideShapes Go.ChangeAt Go.RowKit Pm Sc
theorem own:ownKnob Tryz.prog.godebug=none:=by kernel_rfl
theorem zr1:laidOutB Tryz.prog=true:=by kernel_rfl
theorem zka {zs:List Int} (hw:∀ z∈zs,(Lit.int .u8 z).wf=true):∃ p:List UInt8,zs.map (PV.int .u8)=bs p∧p.length=zs.length:=by
 refine ⟨zs.map fun z=>UInt8.ofNat z.toNat,?_,by simp⟩
 simp only [bs,List.map_map]
 refine List.map_congr_left fun z hz=> ?_
 have h1:=hw z hz
 simp [Lit.wf,IntKind.min,IntKind.max,IntKind.signed,IntKind.bits] at h1
 simp only [Function.comp,UInt8.toNat_ofNat']
 congr 1
 omega
theorem zeS {ps:List PV} (h:Shp Tryz.prog 31 ps):∃ p:List UInt8,ps=[.slice (bs p) p.length false]:=by
 obtain ⟨zs,rfl,_,hw⟩:=h.of_ints Tryz.underlying31 Tryz.underlying5
 obtain ⟨p,e,hl⟩:=zka hw
 exact ⟨p,by rw [e,hl]⟩
theorem zos {ps:List PV} (h:Shp Tryz.prog 27 ps):∃ p:List UInt8,ps=bs p∧p.length=64:=by
 obtain ⟨zs,rfl,hl,hw⟩:=h.arr_ints Tryz.underlying27 Tryz.underlying5
 obtain ⟨p,e,hl'⟩:=zka hw
 exact ⟨p,e,by omega⟩
theorem za2 {ps:List PV} (h:Shp Tryz.prog 3 ps):∃ n:Int,ps=[.int .i64 n]∧(-9223372036854775808≤n∧n≤9223372036854775807):=by
 obtain ⟨n,rfl,hw⟩:=h.of_int Tryz.underlying3
 simp [Lit.wf,IntKind.min,IntKind.max,IntKind.signed,IntKind.bits] at hw
 exact ⟨n,rfl,hw⟩
theorem zhx {ps:List PV} (h:Shp Tryz.prog 2 ps):∃ n:Int,ps=[.int .i64 n]∧(-9223372036854775808≤n∧n≤9223372036854775807):=by
 obtain ⟨n,rfl,hw⟩:=h.of_int Tryz.underlying2
 simp [Lit.wf,IntKind.min,IntKind.max,IntKind.signed,IntKind.bits] at hw
 exact ⟨n,rfl,hw⟩
theorem zct {ps:List PV} (h:Shp Tryz.prog 4 ps):∃ b,ps=[.bool b]:=h.of_bool Tryz.underlying4
theorem zrf {ps:List PV} (h:Shp Tryz.prog 26 ps):∃ a b:Int,ps=[.int .i64 a,.int .i64 b]∧(-9223372036854775808≤a∧a≤9223372036854775807)∧(-9223372036854775808≤b∧b≤9223372036854775807):=by
 obtain ⟨pss,rfl,hf⟩:=h.fields Tryz.underlying26
 match pss,hf with
 | [a,b],⟨ha,hb,_⟩=>
  obtain ⟨a,rfl,h1⟩:=zhx ha
  obtain ⟨b,rfl,h2⟩:=zhx hb
  exact ⟨a,b,rfl,h1,h2⟩
theorem zre {ps:List PV} (h:Shp Tryz.prog 29 ps):∃ s:Sq,ps=sqc s∧SqOk s:=by
 obtain ⟨pss,rfl,hf⟩:=h.fields Tryz.underlying29
 match pss,hf with
 | [a,b,c,d,e,f,g,k],⟨ha,hb,hc,hd,he,hf,hg,hk,_⟩=>
  obtain ⟨a,rfl,h1⟩:=za2 ha
  obtain ⟨b,rfl,h2⟩:=za2 hb
  obtain ⟨n,m,rfl,h3,h4⟩:=zrf hc
  obtain ⟨d,rfl⟩:=zct hd
  obtain ⟨e,rfl,h5⟩:=za2 he
  obtain ⟨f,rfl,h6⟩:=za2 hf
  obtain ⟨p,rfl,h7⟩:=zos hg
  obtain ⟨q,rfl,h8⟩:=zos hk
  exact ⟨⟨a,b,n,m,d,e,f,p,q⟩,by simp [sqc],⟨h1,h2,h3,h4,h5,h6,h7,h8⟩⟩
theorem zrg {ps:List PV} (h:Shp Tryz.prog 35 ps):∃ p:Pi,ps=pic p∧(-9223372036854775808≤p.ty∧p.ty≤9223372036854775807)∧(-9223372036854775808≤p.st∧p.st≤9223372036854775807)∧(-9223372036854775808≤p.od∧p.od≤9223372036854775807):=by
 obtain ⟨pss,rfl,hf⟩:=h.fields Tryz.underlying35
 match pss,hf with
 | [a,b,c,d,e,f],⟨ha,hb,hc,hd,he,hf,_⟩=>
  obtain ⟨a,rfl,h1⟩:=za2 ha
  obtain ⟨b,rfl,h2⟩:=za2 hb
  obtain ⟨c,rfl,h3⟩:=za2 hc
  obtain ⟨d,rfl⟩:=zct hd
  obtain ⟨e,rfl⟩:=zct he
  obtain ⟨f,rfl⟩:=zct hf
  exact ⟨⟨a,b,c,d,e,f⟩,rfl,h1,h2,h3⟩
theorem zor {ps:List PV} (h:Shp Tryz.prog 61 ps):∃ (t:Int) (p:List UInt8),ps=[.int .i64 t,.slice (bs p) p.length false]∧(-9223372036854775808≤t∧t≤9223372036854775807):=by
 obtain ⟨pss,rfl,hf⟩:=h.fields Tryz.underlying61
 match pss,hf with
 | [a,b],⟨ha,hb,_⟩=>
  obtain ⟨a,rfl,h1⟩:=za2 ha
  obtain ⟨p,rfl⟩:=zeS hb
  exact ⟨a,p,rfl,h1⟩
end Go.Proofs.YtjgmdlcjbgiekaaGreatDoor.Lp
namespace Go.Proofs.YtjgmdlcjbgiekaaGreatDoor.Sc
set_option linter.all false
open Pm Ty Go.RowKit
def zs0 (V n:Nat):List Bool:=(List.range n).map fun i=>decide (V / 2^(n - 1 - i)%2=1)
def two (H:za) (i j:Nat) (A B:Blk):za:=(H.set i A).set j B
theorem za8 {H:za} {i:Nat} {A:Blk} (h:H[i]? =some A):H.set i A=H:=by
 apply List.ext_getElem?
 intro j
 rw [List.getElem?_set]
 split
 ·rename_i e;subst e
  split
  ·exact h.symm
  ·rename_i hn;exact absurd (List.getElem?_eq_some_iff.1 h).1 hn
 ·rfl
theorem zvz (x:Nat):(x:Int).tmod 8=((x%8:Nat):Int):=znR x 8
theorem zvB (x:Nat):(x:Int).tdiv 8=((x / 8:Nat):Int):=zs5 x 8
end Go.Proofs.YtjgmdlcjbgiekaaGreatDoor.Sc
