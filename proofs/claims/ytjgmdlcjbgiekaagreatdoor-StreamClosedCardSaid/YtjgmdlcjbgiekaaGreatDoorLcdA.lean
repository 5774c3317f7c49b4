/-
  The law for StreamClosedCardSaid; the tie is the given one.
-/
import Derived.Test.YtjgmdlcjbgiekaaGreatDoorQ49
import Derived.Test.YtjgmdlcjbgiekaaGreatDoorCards
import Derived.Test.YtjgmdlcjbgiekaaGreatDoorTie
import Derived.SevenTiedAt
namespace Go.Proofs.YtjgmdlcjbgiekaaGreatDoor.Lcd
set_option linter.all false
open Go.ChangeShapes Go.WideShapes Go.ChangeAt Go.RowKit Pm Sc Lp Lg
theorem law:∀ xs,ArgsShp Tryz.prog Tryz.f6.params.toList xs→CallOk Tryz.prog 6 xs [] (.bool true) []:=by
 intro xs h
 rw [Tryz.params6] at h
 obtain ⟨x,r,rfl,hx,h⟩:=h.cons
 obtain ⟨y,r,rfl,hy,h⟩:=h.cons
 obtain ⟨z,r,rfl,hz,h⟩:=h.cons
 obtain ⟨w,r,rfl,hw,h⟩:=h.cons
 obtain rfl:=h.nil
 obtain ⟨b,hh,hb⟩:=zht (hx.one (by simp [zci,Tryz.underlying22]))
 cases hh
 obtain ⟨a,hh,ha⟩:=zht (hy.one (by simp [zci,Tryz.underlying22]))
 cases hh
 obtain ⟨ps,hp,rfl⟩:=hz.agg (by simp [zci,Tryz.underlying29])
 obtain ⟨s,rfl,hs⟩:=zlM hp
 obtain ⟨t,hh,ht⟩:=za1 (hw.one (by simp [zci,Tryz.underlying3]))
 cases hh
 exact zk2 b a s t false false [] hb ha hs ht
theorem zqj (os:Os) (args:Array Value):laidMetH Tryz.prog Rows.streamClosedRow.laid ((World.doorLaid Tryz.prog 19 os).forCall (fun _ _=>0) ⟨#[],args,[]⟩).memory:=
 laidMetH_of_parts3 (fuel:=8) (laidMet_of_run' 8 (by kernel_rfl) (by kernel_rfl)) (by kernel_rfl) (by kernel_rfl)
theorem mem0 {a:String×DataW Unit} {l:List (String×DataW Unit)}:a∈a::l:=.head _
theorem mem1 {a b:String×DataW Unit} {l:List (String×DataW Unit)}:a∈b::a::l:=.tail _ (.head _)
set_option maxRecDepth 100000 in
theorem zdO (os:Os) (started:os.Started) (H:Type) (enc:TypeId×Value→H):
  ReturnsInHanded {} Tryz.checked os 6 .any (fun w args=>(Rows.streamClosedSpec.pre enc Tryz.prog Tryz.f6 [] false w args∧laidMetH Tryz.prog Rows.streamClosedRow.laid w)∧sizedMet enc Tryz.prog Tryz.f6 (OpenSpec.ofChange Rows.streamClosedSpec) false w args) (Rows.streamClosedSpec.post enc Tryz.prog Tryz.f6 false true false false):=by
 refine returnsInHanded_of_change_and (C:=Tryz.checked) (X:=fun w _=>laidMetH Tryz.prog Rows.streamClosedRow.laid w) (fun _ _ _ hh h=>h.of_heap hh) own started (by kernel_rfl) Tryz.func6
  (ChangeSpec.witness_shaped (enc:=enc) (C:=Tryz.checked) (os:=os) (X:=fun w _=>laidMetH Tryz.prog Rows.streamClosedRow.laid w) false (World.doorLaid Tryz.prog 19 os) #[.slice none 0 0,.slice none 0 0,.agg (#[.int .i64 0,.int .i64 0,.int .i64 0,.int .i64 0,.bool false,.int .i64 0,.int .i64 0]++Array.replicate 128 (.int .u8 0)),.int .i64 0] 8 rfl (World.shaped_of_RefB (by kernel_rfl) (by kernel_rfl)) (by kernel_rfl) (by kernel_rfl) (by kernel_rfl) (zqj os _)) ?_
 intro W base args ds gs before hval hW _ _ hL _
 exact zpI (P:=Tryz.prog) (fn:=Tryz.f6) (n:=12) (tb:=4) (b0:=base) (r:=.any) (zr6 hL (by kernel_rfl) mem0 mem1) law zrY (by kernel_rfl) (by kernel_rfl) (by kernel_rfl) Tryz.underlying4 rfl
  (fun ds hd=>match ds,hd with|[d0,d1,d2,d3],_=>rfl) hval hW
end Go.Proofs.YtjgmdlcjbgiekaaGreatDoor.Lcd
