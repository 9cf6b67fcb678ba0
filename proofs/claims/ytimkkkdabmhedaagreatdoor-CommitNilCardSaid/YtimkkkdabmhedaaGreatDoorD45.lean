/- Walk: CommitNil. -/
import Derived.Test.YtimkkkdabmhedaaGreatDoorD41
set_option linter.unusedVariables false
set_option maxHeartbeats 1000000
set_option maxRecDepth 100000
namespace Go.Proofs.YtimkkkdabmhedaaGreatDoor
open Go.RowKit
theorem nnew_calls (w:World):Calls Tryz.prog 26 #[.pointer none] w fun E w'=>E= .returned (.pointer none)∧w'=w:=by
 go_enter Tryz.func26,Tryz.ntmps26
 go_wp2_with (fail)
 go_ret
 exact⟨rfl,rfl⟩
theorem ngrow_calls (ao:Option Addr) (n c:Nat) (w:World):Calls Tryz.prog 27 #[.pointer none, .slice ao n c] w fun E w'=>E= .returned (.tuple #[.slice none 0 0, .int .i64 1])∧w'=w:=by
 go_enter Tryz.func27,Tryz.ntmps27
 go_wp2_with (fail)
 refine bodyPost_ret (v:= .tuple #[.slice none 0 0, .int .i64 1]) ?_ rfl ⟨rfl,rfl⟩
 simp[results,Tryz.results27,go_sem]
theorem nend_calls (w:World):Calls Tryz.prog 42 #[.pointer none] w fun E w'=>E= .returned (.slice none 0 0)∧w'=w:=by
 go_enter Tryz.func42,Tryz.ntmps42
 go_wp2_with (fail)
 go_ret
 exact⟨rfl,rfl⟩
theorem nat_calls (w:World):Calls Tryz.prog 31 #[.pointer none] w fun E w'=>E= .returned (.int .i64 0)∧w'=w:=by
 go_enter Tryz.func31,Tryz.ntmps31
 go_wp2_with (fail)
 go_ret
 exact⟨rfl,rfl⟩
theorem ntok_calls (w:World):Calls Tryz.prog 43 #[.pointer none] w fun E w'=>E= .returned (.int .i64 0)∧w'=w:=by
 go_enter Tryz.func43,Tryz.ntmps43
 go_wp2_with (fail)
 go_ret
 exact⟨rfl,rfl⟩
theorem nopen_calls (w:World):Calls Tryz.prog 28 #[.pointer none] w fun E w'=>E= .returned (.int .i64 0)∧w'=w:=by
 go_enter Tryz.func28,Tryz.ntmps28
 go_wp2_with (fail)
 go_ret
 exact⟨rfl,rfl⟩
theorem nrest_calls (w:World):Calls Tryz.prog 32 #[.pointer none] w fun E w'=>E= .returned (.slice none 0 0)∧w'=w:=by
 go_enter Tryz.func32,Tryz.ntmps32
 go_wp2_with (fail)
 go_ret
 exact⟨rfl,rfl⟩
theorem ncopy_calls (w:World):Calls Tryz.prog 40 #[.pointer none] w fun E w'=>E= .returned (.pointer none)∧w'=w:=by
 go_enter Tryz.func40,Tryz.ntmps40
 go_wp2_with (fail)
 go_ret
 exact⟨rfl,rfl⟩
theorem commitNil_walk {so:Option Addr} {sl sc:Nat} {S:List Int} (w:World) (hS:SlI w so sl sc S) (hU:Usu w):
  Frame.Law Tryz.prog 11 #[.slice so sl sc] w:=by
 unfold Frame.Law
 have HU:=Lib.hid hU
 clear hS hU
 go_enter Tryz.func11,Tryz.ntmps11
 go_wp2_with (first
  | (go_at_call 26;refine(nnew_calls _).mono ?_;rintro E W9 ⟨rfl,rfl⟩)
  | (go_at_call 27;refine(ngrow_calls _ _ _ _).mono ?_;rintro E W9 ⟨rfl,rfl⟩)
  | (go_at_call 25;refine(fixed20_calls _ HU.out).mono ?_;rintro E w1 ⟨rfl,hb1⟩;have HB1:=Lib.hid hb1;clear hb1)
  | (go_at_call 42;refine(nend_calls _).mono ?_;rintro E W9 ⟨rfl,rfl⟩)
  | (go_at_call 31;refine(nat_calls _).mono ?_;rintro E W9 ⟨rfl,rfl⟩)
  | (go_at_call 43;refine(ntok_calls _).mono ?_;rintro E W9 ⟨rfl,rfl⟩)
  | (go_at_call 28;refine(nopen_calls _).mono ?_;rintro E W9 ⟨rfl,rfl⟩)
  | (go_at_call 32;refine(nrest_calls _).mono ?_;rintro E W9 ⟨rfl,rfl⟩)
  | (go_at_call 40;refine(ncopy_calls _).mono ?_;rintro E W9 ⟨rfl,rfl⟩))
 go_ret
 exact⟨rfl,HB1.out⟩
end Go.Proofs.YtimkkkdabmhedaaGreatDoor
