/-
  The rules by which simp runs the machine.
-/
import Derived.Test.YtalgbgeocpbadaaAmZb
namespace Go.Proofs.Ytalgbgeocpbadaa.Am
set_option linter.unusedSimpArgs false
set_option linter.unusedVariables false
set_option linter.unusedSectionVars false
section
@[simp] theorem pureC_undef  : pureC (.undef) = false := rfl
@[simp] theorem pureC_bool {b : Bool} : pureC (.bool b) = true := rfl
@[simp] theorem pureC_int {k : IntKind} {n : Int} : pureC (.int k n) = true := rfl
@[simp] theorem pureC_str {s : ByteArray} : pureC (.str s) = true := rfl
@[simp] theorem pureC_lit {v : Value} : pureC (.lit v) = true := rfl
@[simp] theorem pureC_nils  : pureC (.nils) = false := rfl
@[simp] theorem pureC_slc {es : List PV} : pureC (.slc es) = true := rfl
@[simp] theorem pureC_uslc {es : List PV} : pureC (.uslc es) = false := rfl
@[simp] theorem pureC_own {k : Nat} {g : Nat} {gl : Nat} {s : Nat} {o : Nat} {l : Nat} : pureC (.own k g gl s o l) = false := rfl
@[simp] theorem pureC_nown {k : Nat} {g : Nat} {ver : Nat} {i : Nat} {j : Nat} {o : Nat} {l : Nat} : pureC (.nown k g ver i j o l) = false := rfl
@[simp] theorem pureC_ptr {k : Nat} {g : Nat} {o : Nat} : pureC (.ptr k g o) = false := rfl
@[simp] theorem pureC_eptr {k : Nat} {g : Nat} {gl : Nat} {s : Nat} {i : Nat} {j : Nat} : pureC (.eptr k g gl s i j) = false := rfl
@[simp] theorem pureC_nptr {k : Nat} {g : Nat} {ver : Nat} {s : Nat} {i : Nat} {j : Nat} {m : Nat} {l : Nat} : pureC (.nptr k g ver s i j m l) = false := rfl
@[simp] theorem pureC_fptr {cs : List PV} : pureC (.fptr cs) = false := rfl
@[simp] theorem pureC_agg {cs : List PV} : pureC (.agg cs) = false := rfl
@[simp] theorem pureC_tup {vs : List PV} : pureC (.tup vs) = false := rfl
@[simp] theorem pureC_fn {f : Go.Fn} {a : List PV} {c : List PV} : pureC (.fn f a c) = false := rfl
@[simp] theorem isU_undef  : isU (.undef) = false := rfl
@[simp] theorem isU_bool {b : Bool} : isU (.bool b) = false := rfl
@[simp] theorem isU_int {k : IntKind} {n : Int} : isU (.int k n) = false := rfl
@[simp] theorem isU_str {s : ByteArray} : isU (.str s) = false := rfl
@[simp] theorem isU_lit {v : Value} : isU (.lit v) = false := rfl
@[simp] theorem isU_nils  : isU (.nils) = false := rfl
@[simp] theorem isU_slc {es : List PV} : isU (.slc es) = false := rfl
@[simp] theorem isU_uslc {es : List PV} : isU (.uslc es) = true := rfl
@[simp] theorem isU_own {k : Nat} {g : Nat} {gl : Nat} {s : Nat} {o : Nat} {l : Nat} : isU (.own k g gl s o l) = false := rfl
@[simp] theorem isU_nown {k : Nat} {g : Nat} {ver : Nat} {i : Nat} {j : Nat} {o : Nat} {l : Nat} : isU (.nown k g ver i j o l) = false := rfl
@[simp] theorem isU_ptr {k : Nat} {g : Nat} {o : Nat} : isU (.ptr k g o) = false := rfl
@[simp] theorem isU_eptr {k : Nat} {g : Nat} {gl : Nat} {s : Nat} {i : Nat} {j : Nat} : isU (.eptr k g gl s i j) = false := rfl
@[simp] theorem isU_nptr {k : Nat} {g : Nat} {ver : Nat} {s : Nat} {i : Nat} {j : Nat} {m : Nat} {l : Nat} : isU (.nptr k g ver s i j m l) = false := rfl
@[simp] theorem isU_fptr {cs : List PV} : isU (.fptr cs) = false := rfl
@[simp] theorem isU_agg {cs : List PV} : isU (.agg cs) = false := rfl
@[simp] theorem isU_tup {vs : List PV} : isU (.tup vs) = false := rfl
@[simp] theorem isU_fn {f : Go.Fn} {a : List PV} {c : List PV} : isU (.fn f a c) = false := rfl
@[simp] theorem one_undef  : one (.undef) = false := rfl
@[simp] theorem one_bool {b : Bool} : one (.bool b) = true := rfl
@[simp] theorem one_int {k : IntKind} {n : Int} : one (.int k n) = true := rfl
@[simp] theorem one_str {s : ByteArray} : one (.str s) = true := rfl
@[simp] theorem one_lit {v : Value} : one (.lit v) = true := rfl
@[simp] theorem one_nils  : one (.nils) = true := rfl
@[simp] theorem one_slc {es : List PV} : one (.slc es) = true := rfl
@[simp] theorem one_uslc {es : List PV} : one (.uslc es) = false := rfl
@[simp] theorem one_own {k : Nat} {g : Nat} {gl : Nat} {s : Nat} {o : Nat} {l : Nat} : one (.own k g gl s o l) = true := rfl
@[simp] theorem one_nown {k : Nat} {g : Nat} {ver : Nat} {i : Nat} {j : Nat} {o : Nat} {l : Nat} : one (.nown k g ver i j o l) = true := rfl
@[simp] theorem one_ptr {k : Nat} {g : Nat} {o : Nat} : one (.ptr k g o) = true := rfl
@[simp] theorem one_eptr {k : Nat} {g : Nat} {gl : Nat} {s : Nat} {i : Nat} {j : Nat} : one (.eptr k g gl s i j) = true := rfl
@[simp] theorem one_nptr {k : Nat} {g : Nat} {ver : Nat} {s : Nat} {i : Nat} {j : Nat} {m : Nat} {l : Nat} : one (.nptr k g ver s i j m l) = true := rfl
@[simp] theorem one_fptr {cs : List PV} : one (.fptr cs) = true := rfl
@[simp] theorem one_agg {cs : List PV} : one (.agg cs) = false := rfl
@[simp] theorem one_tup {vs : List PV} : one (.tup vs) = false := rfl
@[simp] theorem one_fn {f : Go.Fn} {a : List PV} {c : List PV} : one (.fn f a c) = false := rfl
@[simp] theorem isStr_undef  : isStr (.undef) = false := rfl
@[simp] theorem isStr_bool {b : Bool} : isStr (.bool b) = false := rfl
@[simp] theorem isStr_int {k : IntKind} {n : Int} : isStr (.int k n) = false := rfl
@[simp] theorem isStr_str {s : ByteArray} : isStr (.str s) = true := rfl
@[simp] theorem isStr_lit {v : Value} : isStr (.lit v) = false := rfl
@[simp] theorem isStr_nils  : isStr (.nils) = false := rfl
@[simp] theorem isStr_slc {es : List PV} : isStr (.slc es) = false := rfl
@[simp] theorem isStr_uslc {es : List PV} : isStr (.uslc es) = false := rfl
@[simp] theorem isStr_own {k : Nat} {g : Nat} {gl : Nat} {s : Nat} {o : Nat} {l : Nat} : isStr (.own k g gl s o l) = false := rfl
@[simp] theorem isStr_nown {k : Nat} {g : Nat} {ver : Nat} {i : Nat} {j : Nat} {o : Nat} {l : Nat} : isStr (.nown k g ver i j o l) = false := rfl
@[simp] theorem isStr_ptr {k : Nat} {g : Nat} {o : Nat} : isStr (.ptr k g o) = false := rfl
@[simp] theorem isStr_eptr {k : Nat} {g : Nat} {gl : Nat} {s : Nat} {i : Nat} {j : Nat} : isStr (.eptr k g gl s i j) = false := rfl
@[simp] theorem isStr_nptr {k : Nat} {g : Nat} {ver : Nat} {s : Nat} {i : Nat} {j : Nat} {m : Nat} {l : Nat} : isStr (.nptr k g ver s i j m l) = false := rfl
@[simp] theorem isStr_fptr {cs : List PV} : isStr (.fptr cs) = false := rfl
@[simp] theorem isStr_agg {cs : List PV} : isStr (.agg cs) = false := rfl
@[simp] theorem isStr_tup {vs : List PV} : isStr (.tup vs) = false := rfl
@[simp] theorem isStr_fn {f : Go.Fn} {a : List PV} {c : List PV} : isStr (.fn f a c) = false := rfl
@[simp] theorem isOwn_undef  : isOwn (.undef) = false := rfl
@[simp] theorem isOwn_bool {b : Bool} : isOwn (.bool b) = false := rfl
@[simp] theorem isOwn_int {k : IntKind} {n : Int} : isOwn (.int k n) = false := rfl
@[simp] theorem isOwn_str {s : ByteArray} : isOwn (.str s) = false := rfl
@[simp] theorem isOwn_lit {v : Value} : isOwn (.lit v) = false := rfl
@[simp] theorem isOwn_nils  : isOwn (.nils) = false := rfl
@[simp] theorem isOwn_slc {es : List PV} : isOwn (.slc es) = false := rfl
@[simp] theorem isOwn_uslc {es : List PV} : isOwn (.uslc es) = false := rfl
@[simp] theorem isOwn_own {k : Nat} {g : Nat} {gl : Nat} {s : Nat} {o : Nat} {l : Nat} : isOwn (.own k g gl s o l) = true := rfl
@[simp] theorem isOwn_nown {k : Nat} {g : Nat} {ver : Nat} {i : Nat} {j : Nat} {o : Nat} {l : Nat} : isOwn (.nown k g ver i j o l) = false := rfl
@[simp] theorem isOwn_ptr {k : Nat} {g : Nat} {o : Nat} : isOwn (.ptr k g o) = false := rfl
@[simp] theorem isOwn_eptr {k : Nat} {g : Nat} {gl : Nat} {s : Nat} {i : Nat} {j : Nat} : isOwn (.eptr k g gl s i j) = false := rfl
@[simp] theorem isOwn_nptr {k : Nat} {g : Nat} {ver : Nat} {s : Nat} {i : Nat} {j : Nat} {m : Nat} {l : Nat} : isOwn (.nptr k g ver s i j m l) = false := rfl
@[simp] theorem isOwn_fptr {cs : List PV} : isOwn (.fptr cs) = false := rfl
@[simp] theorem isOwn_agg {cs : List PV} : isOwn (.agg cs) = false := rfl
@[simp] theorem isOwn_tup {vs : List PV} : isOwn (.tup vs) = false := rfl
@[simp] theorem isOwn_fn {f : Go.Fn} {a : List PV} {c : List PV} : isOwn (.fn f a c) = false := rfl
@[simp] theorem noS0_undef  : noS0 (.undef) = true := rfl
@[simp] theorem noS0_bool {b : Bool} : noS0 (.bool b) = true := rfl
@[simp] theorem noS0_int {k : IntKind} {n : Int} : noS0 (.int k n) = true := rfl
@[simp] theorem noS0_str {s : ByteArray} : noS0 (.str s) = true := rfl
@[simp] theorem noS0_lit {v : Value} : noS0 (.lit v) = true := rfl
@[simp] theorem noS0_nils  : noS0 (.nils) = true := rfl
@[simp] theorem noS0_slc {es : List PV} : noS0 (.slc es) = false := rfl
@[simp] theorem noS0_uslc {es : List PV} : noS0 (.uslc es) = false := rfl
@[simp] theorem noS0_own {k : Nat} {g : Nat} {gl : Nat} {s : Nat} {o : Nat} {l : Nat} : noS0 (.own k g gl s o l) = true := rfl
@[simp] theorem noS0_nown {k : Nat} {g : Nat} {ver : Nat} {i : Nat} {j : Nat} {o : Nat} {l : Nat} : noS0 (.nown k g ver i j o l) = true := rfl
@[simp] theorem noS0_ptr {k : Nat} {g : Nat} {o : Nat} : noS0 (.ptr k g o) = true := rfl
@[simp] theorem noS0_eptr {k : Nat} {g : Nat} {gl : Nat} {s : Nat} {i : Nat} {j : Nat} : noS0 (.eptr k g gl s i j) = true := rfl
@[simp] theorem noS0_nptr {k : Nat} {g : Nat} {ver : Nat} {s : Nat} {i : Nat} {j : Nat} {m : Nat} {l : Nat} : noS0 (.nptr k g ver s i j m l) = true := rfl
@[simp] theorem noS0_fptr {cs : List PV} : noS0 (.fptr cs) = true := rfl
@[simp] theorem noS0_agg {cs : List PV} : noS0 (.agg cs) = true := rfl
@[simp] theorem noS0_tup {vs : List PV} : noS0 (.tup vs) = true := rfl
@[simp] theorem noS0_fn {f : Go.Fn} {a : List PV} {c : List PV} : noS0 (.fn f a c) = true := rfl
@[simp] theorem ecells_undef  : ecells (.undef) = [.undef] := rfl
@[simp] theorem comps_undef  : comps (.undef) = [.undef] := rfl
@[simp] theorem frzC_undef  : frzC (.undef) = (.undef) := rfl
@[simp] theorem frzE_undef  : frzE (.undef) = (.undef) := rfl
@[simp] theorem noRefE_undef  : noRefE (.undef) = false := rfl
@[simp] theorem ldC_undef {K G V I J : Nat}  : ldC K G V I J (.undef) = (.undef) := rfl
@[simp] theorem noS1_undef  : noS1 (.undef) = true := rfl
@[simp] theorem noS2_undef  : noS2 (.undef) = true := rfl
@[simp] theorem ecells_bool {b : Bool} : ecells (.bool b) = [.bool b] := rfl
@[simp] theorem comps_bool {b : Bool} : comps (.bool b) = [.bool b] := rfl
@[simp] theorem frzC_bool {b : Bool} : frzC (.bool b) = (.bool b) := rfl
@[simp] theorem frzE_bool {b : Bool} : frzE (.bool b) = (.bool b) := rfl
@[simp] theorem noRefE_bool {b : Bool} : noRefE (.bool b) = true := rfl
@[simp] theorem ldC_bool {K G V I J : Nat} {b : Bool} : ldC K G V I J (.bool b) = (.bool b) := rfl
@[simp] theorem noS1_bool {b : Bool} : noS1 (.bool b) = true := rfl
@[simp] theorem noS2_bool {b : Bool} : noS2 (.bool b) = true := rfl
@[simp] theorem ecells_int {k : IntKind} {n : Int} : ecells (.int k n) = [.int k n] := rfl
@[simp] theorem comps_int {k : IntKind} {n : Int} : comps (.int k n) = [.int k n] := rfl
@[simp] theorem frzC_int {k : IntKind} {n : Int} : frzC (.int k n) = (.int k n) := rfl
@[simp] theorem frzE_int {k : IntKind} {n : Int} : frzE (.int k n) = (.int k n) := rfl
@[simp] theorem noRefE_int {k : IntKind} {n : Int} : noRefE (.int k n) = true := rfl
@[simp] theorem ldC_int {K G V I J : Nat} {k : IntKind} {n : Int} : ldC K G V I J (.int k n) = (.int k n) := rfl
@[simp] theorem noS1_int {k : IntKind} {n : Int} : noS1 (.int k n) = true := rfl
@[simp] theorem noS2_int {k : IntKind} {n : Int} : noS2 (.int k n) = true := rfl
@[simp] theorem ecells_str {s : ByteArray} : ecells (.str s) = [.str s] := rfl
@[simp] theorem comps_str {s : ByteArray} : comps (.str s) = [.str s] := rfl
@[simp] theorem frzC_str {s : ByteArray} : frzC (.str s) = (.str s) := rfl
@[simp] theorem frzE_str {s : ByteArray} : frzE (.str s) = (.str s) := rfl
@[simp] theorem noRefE_str {s : ByteArray} : noRefE (.str s) = true := rfl
@[simp] theorem ldC_str {K G V I J : Nat} {s : ByteArray} : ldC K G V I J (.str s) = (.str s) := rfl
@[simp] theorem noS1_str {s : ByteArray} : noS1 (.str s) = true := rfl
@[simp] theorem noS2_str {s : ByteArray} : noS2 (.str s) = true := rfl
@[simp] theorem ecells_lit {v : Value} : ecells (.lit v) = [.lit v] := rfl
@[simp] theorem comps_lit {v : Value} : comps (.lit v) = [.lit v] := rfl
@[simp] theorem frzC_lit {v : Value} : frzC (.lit v) = (.lit v) := rfl
@[simp] theorem frzE_lit {v : Value} : frzE (.lit v) = (.lit v) := rfl
@[simp] theorem noRefE_lit {v : Value} : noRefE (.lit v) = true := rfl
@[simp] theorem ldC_lit {K G V I J : Nat} {v : Value} : ldC K G V I J (.lit v) = (.lit v) := rfl
@[simp] theorem noS1_lit {v : Value} : noS1 (.lit v) = true := rfl
@[simp] theorem noS2_lit {v : Value} : noS2 (.lit v) = true := rfl
@[simp] theorem ecells_nils  : ecells (.nils) = [.nils] := rfl
@[simp] theorem comps_nils  : comps (.nils) = [.nils] := rfl
@[simp] theorem frzC_nils  : frzC (.nils) = (.nils) := rfl
@[simp] theorem frzE_nils  : frzE (.nils) = (.nils) := rfl
@[simp] theorem noRefE_nils  : noRefE (.nils) = false := rfl
@[simp] theorem ldC_nils {K G V I J : Nat}  : ldC K G V I J (.nils) = (.nils) := rfl
@[simp] theorem noS1_nils  : noS1 (.nils) = true := rfl
@[simp] theorem noS2_nils  : noS2 (.nils) = true := rfl
@[simp] theorem ecells_slc {es : List PV} : ecells (.slc es) = [.slc es] := rfl
@[simp] theorem comps_slc {es : List PV} : comps (.slc es) = [.slc es] := rfl
@[simp] theorem frzC_slc {es : List PV} : frzC (.slc es) = (.slc es) := rfl
@[simp] theorem frzE_slc {es : List PV} : frzE (.slc es) = (.slc es) := rfl
@[simp] theorem noRefE_slc {es : List PV} : noRefE (.slc es) = true := rfl
@[simp] theorem ldC_slc {K G V I J : Nat} {es : List PV} : ldC K G V I J (.slc es) = (.slc es) := rfl
@[simp] theorem noS1_slc {es : List PV} : noS1 (.slc es) = false := rfl
@[simp] theorem noS2_slc {es : List PV} : noS2 (.slc es) = false := rfl
@[simp] theorem ecells_uslc {es : List PV} : ecells (.uslc es) = [.uslc es] := rfl
@[simp] theorem comps_uslc {es : List PV} : comps (.uslc es) = [.uslc es] := rfl
@[simp] theorem frzC_uslc {es : List PV} : frzC (.uslc es) = (.slc es) := rfl
@[simp] theorem frzE_uslc {es : List PV} : frzE (.uslc es) = (.slc es) := rfl
@[simp] theorem noRefE_uslc {es : List PV} : noRefE (.uslc es) = true := rfl
@[simp] theorem ldC_uslc {K G V I J : Nat} {es : List PV} : ldC K G V I J (.uslc es) = (.nown K G V I J 0 es.length) := rfl
@[simp] theorem noS1_uslc {es : List PV} : noS1 (.uslc es) = (es.all fun e => (ecells e).all noS0) := rfl
@[simp] theorem noS2_uslc {es : List PV} : noS2 (.uslc es) = (es.all fun e => (ecells e).all noS1) := rfl
@[simp] theorem ecells_own {k : Nat} {g : Nat} {gl : Nat} {s : Nat} {o : Nat} {l : Nat} : ecells (.own k g gl s o l) = [.own k g gl s o l] := rfl
@[simp] theorem comps_own {k : Nat} {g : Nat} {gl : Nat} {s : Nat} {o : Nat} {l : Nat} : comps (.own k g gl s o l) = [.own k g gl s o l] := rfl
@[simp] theorem frzC_own {k : Nat} {g : Nat} {gl : Nat} {s : Nat} {o : Nat} {l : Nat} : frzC (.own k g gl s o l) = (.own k g gl s o l) := rfl
@[simp] theorem frzE_own {k : Nat} {g : Nat} {gl : Nat} {s : Nat} {o : Nat} {l : Nat} : frzE (.own k g gl s o l) = (.own k g gl s o l) := rfl
@[simp] theorem noRefE_own {k : Nat} {g : Nat} {gl : Nat} {s : Nat} {o : Nat} {l : Nat} : noRefE (.own k g gl s o l) = false := rfl
@[simp] theorem ldC_own {K G V I J : Nat} {k : Nat} {g : Nat} {gl : Nat} {s : Nat} {o : Nat} {l : Nat} : ldC K G V I J (.own k g gl s o l) = (.own k g gl s o l) := rfl
@[simp] theorem noS1_own {k : Nat} {g : Nat} {gl : Nat} {s : Nat} {o : Nat} {l : Nat} : noS1 (.own k g gl s o l) = true := rfl
@[simp] theorem noS2_own {k : Nat} {g : Nat} {gl : Nat} {s : Nat} {o : Nat} {l : Nat} : noS2 (.own k g gl s o l) = true := rfl
@[simp] theorem ecells_nown {k : Nat} {g : Nat} {ver : Nat} {i : Nat} {j : Nat} {o : Nat} {l : Nat} : ecells (.nown k g ver i j o l) = [.nown k g ver i j o l] := rfl
@[simp] theorem comps_nown {k : Nat} {g : Nat} {ver : Nat} {i : Nat} {j : Nat} {o : Nat} {l : Nat} : comps (.nown k g ver i j o l) = [.nown k g ver i j o l] := rfl
@[simp] theorem frzC_nown {k : Nat} {g : Nat} {ver : Nat} {i : Nat} {j : Nat} {o : Nat} {l : Nat} : frzC (.nown k g ver i j o l) = (.nown k g ver i j o l) := rfl
@[simp] theorem frzE_nown {k : Nat} {g : Nat} {ver : Nat} {i : Nat} {j : Nat} {o : Nat} {l : Nat} : frzE (.nown k g ver i j o l) = (.nown k g ver i j o l) := rfl
@[simp] theorem noRefE_nown {k : Nat} {g : Nat} {ver : Nat} {i : Nat} {j : Nat} {o : Nat} {l : Nat} : noRefE (.nown k g ver i j o l) = false := rfl
@[simp] theorem ldC_nown {K G V I J : Nat} {k : Nat} {g : Nat} {ver : Nat} {i : Nat} {j : Nat} {o : Nat} {l : Nat} : ldC K G V I J (.nown k g ver i j o l) = (.nown k g ver i j o l) := rfl
@[simp] theorem noS1_nown {k : Nat} {g : Nat} {ver : Nat} {i : Nat} {j : Nat} {o : Nat} {l : Nat} : noS1 (.nown k g ver i j o l) = true := rfl
@[simp] theorem noS2_nown {k : Nat} {g : Nat} {ver : Nat} {i : Nat} {j : Nat} {o : Nat} {l : Nat} : noS2 (.nown k g ver i j o l) = true := rfl
@[simp] theorem ecells_ptr {k : Nat} {g : Nat} {o : Nat} : ecells (.ptr k g o) = [.ptr k g o] := rfl
@[simp] theorem comps_ptr {k : Nat} {g : Nat} {o : Nat} : comps (.ptr k g o) = [.ptr k g o] := rfl
@[simp] theorem frzC_ptr {k : Nat} {g : Nat} {o : Nat} : frzC (.ptr k g o) = (.ptr k g o) := rfl
@[simp] theorem frzE_ptr {k : Nat} {g : Nat} {o : Nat} : frzE (.ptr k g o) = (.ptr k g o) := rfl
@[simp] theorem noRefE_ptr {k : Nat} {g : Nat} {o : Nat} : noRefE (.ptr k g o) = false := rfl
@[simp] theorem ldC_ptr {K G V I J : Nat} {k : Nat} {g : Nat} {o : Nat} : ldC K G V I J (.ptr k g o) = (.ptr k g o) := rfl
@[simp] theorem noS1_ptr {k : Nat} {g : Nat} {o : Nat} : noS1 (.ptr k g o) = true := rfl
@[simp] theorem noS2_ptr {k : Nat} {g : Nat} {o : Nat} : noS2 (.ptr k g o) = true := rfl
@[simp] theorem ecells_eptr {k : Nat} {g : Nat} {gl : Nat} {s : Nat} {i : Nat} {j : Nat} : ecells (.eptr k g gl s i j) = [.eptr k g gl s i j] := rfl
@[simp] theorem comps_eptr {k : Nat} {g : Nat} {gl : Nat} {s : Nat} {i : Nat} {j : Nat} : comps (.eptr k g gl s i j) = [.eptr k g gl s i j] := rfl
@[simp] theorem frzC_eptr {k : Nat} {g : Nat} {gl : Nat} {s : Nat} {i : Nat} {j : Nat} : frzC (.eptr k g gl s i j) = (.eptr k g gl s i j) := rfl
@[simp] theorem frzE_eptr {k : Nat} {g : Nat} {gl : Nat} {s : Nat} {i : Nat} {j : Nat} : frzE (.eptr k g gl s i j) = (.eptr k g gl s i j) := rfl
@[simp] theorem noRefE_eptr {k : Nat} {g : Nat} {gl : Nat} {s : Nat} {i : Nat} {j : Nat} : noRefE (.eptr k g gl s i j) = false := rfl
@[simp] theorem ldC_eptr {K G V I J : Nat} {k : Nat} {g : Nat} {gl : Nat} {s : Nat} {i : Nat} {j : Nat} : ldC K G V I J (.eptr k g gl s i j) = (.eptr k g gl s i j) := rfl
@[simp] theorem noS1_eptr {k : Nat} {g : Nat} {gl : Nat} {s : Nat} {i : Nat} {j : Nat} : noS1 (.eptr k g gl s i j) = true := rfl
@[simp] theorem noS2_eptr {k : Nat} {g : Nat} {gl : Nat} {s : Nat} {i : Nat} {j : Nat} : noS2 (.eptr k g gl s i j) = true := rfl
@[simp] theorem ecells_nptr {k : Nat} {g : Nat} {ver : Nat} {s : Nat} {i : Nat} {j : Nat} {m : Nat} {l : Nat} : ecells (.nptr k g ver s i j m l) = [.nptr k g ver s i j m l] := rfl
@[simp] theorem comps_nptr {k : Nat} {g : Nat} {ver : Nat} {s : Nat} {i : Nat} {j : Nat} {m : Nat} {l : Nat} : comps (.nptr k g ver s i j m l) = [.nptr k g ver s i j m l] := rfl
@[simp] theorem frzC_nptr {k : Nat} {g : Nat} {ver : Nat} {s : Nat} {i : Nat} {j : Nat} {m : Nat} {l : Nat} : frzC (.nptr k g ver s i j m l) = (.nptr k g ver s i j m l) := rfl
@[simp] theorem frzE_nptr {k : Nat} {g : Nat} {ver : Nat} {s : Nat} {i : Nat} {j : Nat} {m : Nat} {l : Nat} : frzE (.nptr k g ver s i j m l) = (.nptr k g ver s i j m l) := rfl
@[simp] theorem noRefE_nptr {k : Nat} {g : Nat} {ver : Nat} {s : Nat} {i : Nat} {j : Nat} {m : Nat} {l : Nat} : noRefE (.nptr k g ver s i j m l) = false := rfl
@[simp] theorem ldC_nptr {K G V I J : Nat} {k : Nat} {g : Nat} {ver : Nat} {s : Nat} {i : Nat} {j : Nat} {m : Nat} {l : Nat} : ldC K G V I J (.nptr k g ver s i j m l) = (.nptr k g ver s i j m l) := rfl
@[simp] theorem noS1_nptr {k : Nat} {g : Nat} {ver : Nat} {s : Nat} {i : Nat} {j : Nat} {m : Nat} {l : Nat} : noS1 (.nptr k g ver s i j m l) = true := rfl
@[simp] theorem noS2_nptr {k : Nat} {g : Nat} {ver : Nat} {s : Nat} {i : Nat} {j : Nat} {m : Nat} {l : Nat} : noS2 (.nptr k g ver s i j m l) = true := rfl
@[simp] theorem ecells_fptr {cs : List PV} : ecells (.fptr cs) = [.fptr cs] := rfl
@[simp] theorem comps_fptr {cs : List PV} : comps (.fptr cs) = [.fptr cs] := rfl
@[simp] theorem frzC_fptr {cs : List PV} : frzC (.fptr cs) = (.fptr cs) := rfl
@[simp] theorem frzE_fptr {cs : List PV} : frzE (.fptr cs) = (.fptr cs) := rfl
@[simp] theorem noRefE_fptr {cs : List PV} : noRefE (.fptr cs) = false := rfl
@[simp] theorem ldC_fptr {K G V I J : Nat} {cs : List PV} : ldC K G V I J (.fptr cs) = (.fptr cs) := rfl
@[simp] theorem noS1_fptr {cs : List PV} : noS1 (.fptr cs) = true := rfl
@[simp] theorem noS2_fptr {cs : List PV} : noS2 (.fptr cs) = true := rfl
@[simp] theorem ecells_agg {cs : List PV} : ecells (.agg cs) = cs := rfl
@[simp] theorem comps_agg {cs : List PV} : comps (.agg cs) = [.agg cs] := rfl
@[simp] theorem frzC_agg {cs : List PV} : frzC (.agg cs) = (.agg cs) := rfl
@[simp] theorem frzE_agg {cs : List PV} : frzE (.agg cs) = (.agg (cs.map frzC)) := rfl
@[simp] theorem noRefE_agg {cs : List PV} : noRefE (.agg cs) = (cs.all fun c => pureC c || isU c) := rfl
@[simp] theorem ldC_agg {K G V I J : Nat} {cs : List PV} : ldC K G V I J (.agg cs) = (.agg cs) := rfl
@[simp] theorem noS1_agg {cs : List PV} : noS1 (.agg cs) = true := rfl
@[simp] theorem noS2_agg {cs : List PV} : noS2 (.agg cs) = true := rfl
@[simp] theorem ecells_tup {vs : List PV} : ecells (.tup vs) = [.tup vs] := rfl
@[simp] theorem comps_tup {vs : List PV} : comps (.tup vs) = vs := rfl
@[simp] theorem frzC_tup {vs : List PV} : frzC (.tup vs) = (.tup vs) := rfl
@[simp] theorem frzE_tup {vs : List PV} : frzE (.tup vs) = (.tup vs) := rfl
@[simp] theorem noRefE_tup {vs : List PV} : noRefE (.tup vs) = false := rfl
@[simp] theorem ldC_tup {K G V I J : Nat} {vs : List PV} : ldC K G V I J (.tup vs) = (.tup vs) := rfl
@[simp] theorem noS1_tup {vs : List PV} : noS1 (.tup vs) = true := rfl
@[simp] theorem noS2_tup {vs : List PV} : noS2 (.tup vs) = true := rfl
@[simp] theorem ecells_fn {f : Go.Fn} {a : List PV} {c : List PV} : ecells (.fn f a c) = [.fn f a c] := rfl
@[simp] theorem comps_fn {f : Go.Fn} {a : List PV} {c : List PV} : comps (.fn f a c) = [.fn f a c] := rfl
@[simp] theorem frzC_fn {f : Go.Fn} {a : List PV} {c : List PV} : frzC (.fn f a c) = (.fn f a c) := rfl
@[simp] theorem frzE_fn {f : Go.Fn} {a : List PV} {c : List PV} : frzE (.fn f a c) = (.fn f a c) := rfl
@[simp] theorem noRefE_fn {f : Go.Fn} {a : List PV} {c : List PV} : noRefE (.fn f a c) = false := rfl
@[simp] theorem ldC_fn {K G V I J : Nat} {f : Go.Fn} {a : List PV} {c : List PV} : ldC K G V I J (.fn f a c) = (.fn f a c) := rfl
@[simp] theorem noS1_fn {f : Go.Fn} {a : List PV} {c : List PV} : noS1 (.fn f a c) = true := rfl
@[simp] theorem noS2_fn {f : Go.Fn} {a : List PV} {c : List PV} : noS2 (.fn f a c) = true := rfl
end
theorem allB {p : PV → Prop} (l : List Bool) (h : ∀ b, p (.bool b)) : ∀ x, x ∈ List.map PV.bool l → p x := fun x hx => by
  obtain ⟨b, _, rfl⟩ := List.mem_map.1 hx; exact h b
@[simp] theorem nr_map_bool (l : List Bool) : (List.map PV.bool l).all noRefE = true := List.all_eq_true.2 (allB l fun _ => rfl)
@[simp ↓] theorem nr_mem_bool (l : List Bool) : (∀ x, x ∈ List.map PV.bool l → noRefE x = true) = True := eq_true (allB l fun _ => rfl)
@[simp ↓] theorem sz_mem_bool (l : List Bool) : (∀ x, x ∈ List.map PV.bool l → (ecells x).length = 1) = True := eq_true (allB l fun _ => rfl)
@[simp ↓] theorem pu_mem_bool (l : List Bool) : (∀ x, x ∈ List.map PV.bool l → ∀ y, y ∈ ecells x → pureC y = true) = True := eq_true (allB l fun b y hy => by simp at hy; subst hy; rfl)
@[simp] theorem frz_bool : frzE ∘ PV.bool = PV.bool := rfl
@[simp] theorem frz_int (k : IntKind) : frzE ∘ PV.int k = PV.int k := rfl
attribute [simp] r_mat matP r_rfor x_normal e_cally e_stuck setPs pend unp r_frz n_neg n_beq n_bne n_cast r_skip r_nil r_cons g_f g_t e_call o_some o_none r_reg r_seq r_condT r_condF r_block r_exit r_ret t_normal t_exit t_ret i_normal i_exit i_ret e_mv e_pick e_alloc e_box e_build e_mkarr e_lit e_load e_loadV e_store e_nilchk e_bin e_un e_conv e_convId e_convStr e_makeSlice e_slice e_fieldAddr e_field e_indexAddr e_indexAddrA e_indexA e_indexS e_extract e_callv e_len e_lenK e_minmax e_append e_copy e_mkfn
attribute [simp] gdO evO aop setO lenP binP unP upd sitesIn siteNos lkOf loadP takeE idxA addrOff sliceP sliceB asInt setAll fzV fzC settled sKs sVars sCells sCell sAdd sObj ren renV renO sRow sGen sHeap sVs sOk nodupN fin resVs resV outIds szsOk rvV rvE rvC oneV callOk rOk rcells thWs hasOwn hasOwnC frzH frzO frzR noS ksF genF thComps thCs thV thComp thC storeP embC embCs embE embEs srcP appP appOk appDst copyP mkarrP buildP szOk kill purC purE setE ldCs reE foldMM List.idxOf?_cons List.idxOf?_nil
end Go.Proofs.Ytalgbgeocpbadaa.Am
