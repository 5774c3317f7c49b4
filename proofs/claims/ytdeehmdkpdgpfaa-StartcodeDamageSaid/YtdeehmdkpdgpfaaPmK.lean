/-
  A small program logic over abstract values: what is evaluated by simp. No condition. Program-independent.
-/
import Derived.Test.YtdeehmdkpdgpfaaPmP
namespace Go.Proofs.Ytdeehmdkpdgpfaa.Pm
set_option linter.all false
set_option linter.unusedVariables false
set_option linter.unusedSimpArgs false
open Go.RowKit

attribute [go_sem] VR VO_nil VO_step VRd VOd_nil VOd_step isCall stp asked pcallee pop ev pvc pv1 slot put Nat.beq pbin pint pstr peq scalT peqS peqI peqF peqA peqT peqG List.range List.range.loop pun Option.map Option.bind live scells pconv rd pload wr pstore pfieldAddr pfield pindexAddr pindex pbound pslice pfill reps pmake appSrc pcopy pmin pmax pfold pbuiltin pnil aggT isPtrT isBoolT PV.cells PV.cell pbuild pbuildSlice fieldPlaces Option.isSome_some Option.isSome_none kp hp0 hp1 hp2 hp3 hs0 hs1 hs2 hl1 hl2 hl3 List.append_assoc Nat.beq_refl List.length_cons List.length_nil List.all_cons List.all_nil splice reps List.replicate_succ List.replicate_zero List.flatten_cons List.flatten_nil List.take_succ_cons List.take_zero List.take_nil List.drop_succ_cons List.drop_zero List.drop_nil Nat.zero_mul Nat.sub_self true_implies false_implies and_true true_and false_and and_false and_self not_true_eq_false not_false_eq_true Bool.false_eq_true Bool.false_and Bool.and_false Bool.true_or Bool.or_true Bool.false_or Bool.or_false if_true if_false ite_true ite_false forall_const List.map_cons List.map_nil List.cons_append List.nil_append List.append_nil Array.toList Nat.zero_add Nat.add_zero Nat.mul_one Nat.one_mul beq_self_eq_true Bool.true_and Bool.and_true List.getElem?_cons_succ List.getElem?_cons_zero List.getElem?_toArray List.set_cons_zero List.set_cons_succ beq_true beq_false Bool.not_true Bool.not_false decide_true decide_false cond_true cond_false ite_ok ite_no w64 w8 w32 dec_t dec_f beq_t beq_f bne_t bne_f Int.toNat_natCast IntWalk.toNatUp

end Go.Proofs.Ytdeehmdkpdgpfaa.Pm
