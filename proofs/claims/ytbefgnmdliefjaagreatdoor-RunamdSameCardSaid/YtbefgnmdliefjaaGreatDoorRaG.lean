/-
  compact: what the library's variables hold when a call begins. Conditions: none.
-/
import Derived.Test.YtbefgnmdliefjaaGreatDoorTie
import Derived.Test.YtbefgnmdliefjaaGreatDoorCards
import Derived.Test.YtbefgnmdliefjaaGreatDoorPk12
import Derived.LaidHandle
import Derived.LaidMore
import Derived.MakeChecks
import Derived.Lib.LaidTab
import Derived.Lib.LaidCaseMet
import Derived.Test.YtbefgnmdliefjaaGreatDoorRa0
import Derived.Stop.LaidErr
set_option linter.unusedVariables false
set_option linter.unusedSimpArgs false
namespace Go.Proofs.YtbefgnmdliefjaaGreatDoor
open Go Go.ChangeShapes Go.WideShapes Go.ChangeAt Go.RowKit
abbrev laidL:List (String × DataW Unit):=
 [("math/bits.deBruijn32tab", Rows.laid_math_bits_deBruijn32tab), ("math/bits.deBruijn64tab", Rows.laid_math_bits_deBruijn64tab), ("internal/strconv.uint64pow10", Rows.laid_internal_strconv_uint64pow10), ("unicode/utf8.acceptRanges", Rows.laid_unicode_utf8_acceptRanges),
 ("strconv.ErrRange", Rows.laid_strconv_ErrRange), ("strconv.ErrSyntax", Rows.laid_strconv_ErrSyntax), ("unicode.White_Space", Rows.laid_unicode_White_Space), ("strings.asciiSpace", Rows.laid_strings_asciiSpace), ("unicode.CaseRanges", Rows.laid_unicode_CaseRanges), ("unicode/utf8.first", Rows.laid_unicode_utf8_first)]
noncomputable def laidWorld (os:Os):World:=
 let w0:=World.doorLaid Tryz.prog 400 os
 let put (h:Array Obj) (g:Nat) (cs:Array Value):Array Obj:=h.modify g fun
  | .cells _ t frozen=>.cells cs t frozen
  | o=>o
 let h1:=put w0.heap (Tryz.lays158_ren.g 3) (Lib.firstTab.map fun z=>Value.int .u8 z).toArray
 let h2:=put h1 (Tryz.lays158_ren.g 13) #[.slice (some ⟨(World.doorLaid Tryz.prog 400 default).heap.size,0,none⟩) 336 336]
 { w0 with heap:=h2.push (.cells Lib.caseCells5 (Tryz.lays158_ren.t 208) (0,0)) }
abbrev laidA:List (String × DataW Unit):=
 [("math/bits.deBruijn32tab", Rows.laid_math_bits_deBruijn32tab), ("math/bits.deBruijn64tab", Rows.laid_math_bits_deBruijn64tab), ("internal/strconv.uint64pow10", Rows.laid_internal_strconv_uint64pow10), ("unicode/utf8.acceptRanges", Rows.laid_unicode_utf8_acceptRanges),
 ("strconv.ErrRange", Rows.laid_strconv_ErrRange), ("strconv.ErrSyntax", Rows.laid_strconv_ErrSyntax), ("unicode.White_Space", Rows.laid_unicode_White_Space), ("strings.asciiSpace", Rows.laid_strings_asciiSpace)]
theorem laidVars_split {P:Program} {w:World}:∀ {l l' : List (String × DataW Unit)} {ps:List MemPlace},DataW.LaidVars P w (l++l') ps → ∃ p q,DataW.LaidVars P w l p∧DataW.LaidVars P w l' q∧ps=p++q
 | [],_,ps,h=>⟨[],ps,rfl,h,rfl⟩
 | (n,d) :: r,_,ps,h=>by
  obtain ⟨g,t,cs,fuel,p,q,h1,h2,h3,h4,h5,rfl⟩:=h
  obtain ⟨a,b,ha,hb,rfl⟩:=laidVars_split h5
  exact ⟨_,b,⟨g,t,cs,fuel,p,a,h1,h2,h3,h4,ha,rfl⟩,hb,by simp [List.append_assoc]⟩
theorem laidMet_swap {P:Program} {w:World} {l:List (String × DataW Unit)} {x y:String × DataW Unit} (h:laidMet P ((l++[x])++[y]) w):laidMet P (l++[y,x]) w:=by
 obtain ⟨ps,hv,hn,hc⟩:=h
 obtain ⟨p,c,h1,h2,rfl⟩:=laidVars_split hv
 obtain ⟨a,b,h3,h4,rfl⟩:=laidVars_split h1
 have hp:(a++(c++b)).Perm (a++b++c):=by
  rw [List.append_assoc]
  exact List.Perm.append_left a List.perm_append_comm
 refine ⟨a++(c++b),LaidVars_append h3 (LaidVars_append (l:=[y]) h2 h4),hp.nodup_iff.2 hn,fun b' off hb=>hc b' off (hp.mem_iff.1 hb)⟩
theorem dp_h (os : Os) (args : Array Value) : (DataW.laidRun Tryz.prog ((laidWorld os).forCall (fun _ _ => 0) ⟨#[], args, []⟩).memory 8 ((laidA ++ [("unicode/utf8.first", Rows.laid_unicode_utf8_first)]).map (·.1))).map (·.1) = some (laidA ++ [("unicode/utf8.first", Rows.laid_unicode_utf8_first)]) := by kernel_rfl
theorem dp_n (os : Os) (args : Array Value) : (DataW.laidRun Tryz.prog ((laidWorld os).forCall (fun _ _ => 0) ⟨#[], args, []⟩).memory 8 ((laidA ++ [("unicode/utf8.first", Rows.laid_unicode_utf8_first)]).map (·.1))).map (fun x => nodupB (x.2.map MemPlace.codeOf)) = some true := by kernel_rfl
theorem dp_r (os : Os) (args : Array Value) : (DataW.laidRun Tryz.prog ((laidWorld os).forCall (fun _ _ => 0) ⟨#[], args, []⟩).memory 8 ((laidA ++ [("unicode/utf8.first", Rows.laid_unicode_utf8_first)]).map (·.1))).map (fun x => laidRowsB Tryz.prog ((laidWorld os).forCall (fun _ _ => 0) ⟨#[], args, []⟩).memory x.2) = some true := by kernel_rfl
theorem dp_o (os : Os) (args : Array Value) : (DataW.laidRun Tryz.prog ((laidWorld os).forCall (fun _ _ => 0) ⟨#[], args, []⟩).memory 8 ((laidA ++ [("unicode/utf8.first", Rows.laid_unicode_utf8_first)]).map (·.1))).map (fun x => x.2.all fun p => p.block != Tryz.lays158_ren.g 13 && p.block != (World.doorLaid Tryz.prog 400 default).heap.size) = some true := by kernel_rfl
theorem dp_v (os:Os) (args:Array Value):((laidWorld os).forCall (fun _ _=>0) ⟨#[],args,[]⟩).memory.heap[Tryz.lays158_ren.g 13]? = some (.cells #[.slice (some ⟨(World.doorLaid Tryz.prog 400 default).heap.size,0,none⟩) Lib.caseA.size Lib.caseA.size] (Tryz.lays158_ren.t 162) (0,0)):=by kernel_rfl
theorem dp_b (os:Os) (args:Array Value):((laidWorld os).forCall (fun _ _=>0) ⟨#[],args,[]⟩).memory.heap[(World.doorLaid Tryz.prog 400 default).heap.size]? = some (.cells Lib.caseCells5 (Tryz.lays158_ren.t 208) (0,0)):=by kernel_rfl
theorem door_plain (os : Os) (args : Array Value) : laidMet Tryz.prog ((laidA ++ [("unicode/utf8.first", Rows.laid_unicode_utf8_first)]) ++ [("unicode.CaseRanges", Lib.caseData)]) ((laidWorld os).forCall (fun _ _ => 0) ⟨#[], args, []⟩).memory :=
 laidMet_with_case (ρ:=Tryz.lays158_ren) { Tryz.lays158 with } Tryz.lays158.t206 ⟨by kernel_rfl,by kernel_rfl,by kernel_rfl,by kernel_rfl,by kernel_rfl,by kernel_rfl⟩
  (l := laidA ++ [("unicode/utf8.first", Rows.laid_unicode_utf8_first)])
  8 (dp_h os args) (dp_n os args) (dp_r os args) (World.doorLaid Tryz.prog 400 default).heap.size (Tryz.lays158_ren.t 208) (of_decide_eq_true (by kernel_rfl)) (dp_o os args) (dp_v os args) (dp_b os args)
theorem case_eq:Go.Pinned.caseRanges=Lib.caseData:=by kernel_rfl
theorem door_met (os:Os) (args:Array Value):laidMetH Tryz.prog laidL ((laidWorld os).forCall (fun _ _=>0) ⟨#[],args,[]⟩).memory:=by
 rw [MakeChecks.laidMetH_plain _ _ _ (by kernel_rfl)]
 have h:=laidMet_swap (door_plain os args)
 rw [← case_eq] at h
 exact h
def asciiZ:List Int:=(List.range 256).map fun i=>cond (Nat.beq i 9 || (Nat.beq i 10 || (Nat.beq i 11 || (Nat.beq i 12 || (Nat.beq i 13 || Nat.beq i 32))))) 1 0
theorem ascii_tab:(Rows.laid_strings_asciiSpace:DataW Unit)=Lib.tabData .u8 asciiZ:=by kernel_rfl
theorem ascii_val:Go.Ra.asciiT=asciiZ.map (Ab.V.int .u8):=by kernel_rfl
theorem ascii_R {W : World} (h : Lib.TabIs Tryz.prog W "strings.asciiSpace" .u8 asciiZ) : Ab.R W (fun _ _ => False) [] (.pin Go.Ra.asciiT) (.pointer (some ⟨3, 0, none⟩)) := by
 refine .pin _ _ 3 0 (fun k=>.int .u8 (asciiZ.getD k 0)) (fun k hk=>⟨fun h=>h,?_⟩) (fun k v hv=>?_)
 ·rw [ascii_val,List.length_map] at hk
  rw [Nat.zero_add]
  exact h.cell (by kernel_rfl) k hk
 ·rw [ascii_val,List.getElem?_map] at hv
  cases hz:asciiZ[k]? with
  | none=>rw [hz] at hv; cases hv
  | some z =>
   rw [hz] at hv
   simp only [Option.map_some,Option.some.injEq] at hv
   subst hv
   rw [List.getD,hz]
   exact .int _ _ _
theorem star : "*" ++ "errors.errorString" = "*errors.errorString" := by decide
theorem err_row (u : TypeId) (h : Tryz.prog.typeName? 3 u = some "*errors.errorString") : u = 354 :=
 typeName_ptr_named (nm := "errors.errorString") (by rw [star]; kernel_rfl) (by kernel_rfl) (by decide) u (by rw [star]; exact h)
theorem gs_of_laid {W:World} (h:laidMetH Tryz.prog laidL W):Ab.Gs Tryz.prog W fun _ _=>False:=by
 rw [MakeChecks.laidMetH_plain _ _ _ (by kernel_rfl)] at h
 have hs:=h.tail.tail.tail.tail.tail
 have ha:=hs.tail.tail
 intro p hp
 rw [Go.Ra.globs_eq] at hp
 rcases List.mem_cons.1 hp with rfl | hp
 ·rw [ascii_tab] at ha
  exact ascii_R (Lib.tabIs_of_head (g:=3) (t:=296) (n:=256) (e:=5) (by kernel_rfl) (by kernel_rfl) (by kernel_rfl) (by kernel_rfl) (by kernel_rfl) (by kernel_rfl) ha)
 ·rcases List.mem_cons.1 hp with rfl | hp
  ·obtain ⟨a, s, hv, _⟩ := laid_sentinel hs (g := 6) (tp := 354) (ti := 248) (te := 356) (ts := 9) (f := { name := "s", type := 9, offset := 0, embedded := false, tag := "", pkgPath := "errors", byteOffset := 0 }) (ms := #[("Error", 287)]) (by kernel_rfl) (by kernel_rfl) (by kernel_rfl) err_row (by kernel_rfl) (by kernel_rfl) rfl rfl (by kernel_rfl) (by kernel_rfl) (by kernel_rfl)
   refine .pin _ _ 6 0 (fun _=>.iface 354 (.pointer (some a))) (fun k hk=>⟨fun h=>h,?_⟩) (fun k v hv=>?_)
   ·have hk0:k=0:=by simpa using hk
    subst hk0
    have := World.var?_cell (show Tryz.prog.globalNamed "strconv.ErrSyntax" = some 6 by kernel_rfl) hv 0
    simpa using this
   ·match k,hv with
    | 0,hv =>
     simp only [List.getElem?_cons_zero,Option.some.injEq] at hv
     subst hv
     exact .ifc _ _ _ _ (.any _ _)
    | k+1,hv=>simp at hv
  ·cases hp
theorem own:ownKnob Tryz.prog.godebug=none:=by kernel_rfl
theorem laidOut:laidOutB Tryz.prog=true:=by kernel_rfl
end Go.Proofs.YtbefgnmdliefjaaGreatDoor
