/-
  compact: what the library's variables hold when a call begins. Conditions: none.
-/
import Derived.Test.YtbefgnmdliefjaaGreatDoorTie
import Derived.Test.YtbefgnmdliefjaaGreatDoorCards
import Derived.Test.YtbefgnmdliefjaaGreatDoorPk12
import Derived.LaidHandle
import Derived.LaidMore
import Derived.MakeChecks
import Derived.Lib.LaidTab
import Derived.Lib.LaidCaseMet
import Derived.Test.YtbefgnmdliefjaaGreatDoorRa0
import Derived.Stop.LaidErr
open Go.Proofs.Tryz (prog)
open List renaming mem_cons→ZE3
open Option.some renaming injEq→ZH3
set_option linter.unusedVariables false
set_option linter.unusedSimpArgs false
namespace Go.Proofs.YtbefgnmdliefjaaGreatDoor
open Go Go.ChangeShapes Go.WideShapes Go.ChangeAt Go.RowKit
abbrev GS:List (String × DataW Unit):=
 [("math/bits.deBruijn32tab", Rows.laid_math_bits_deBruijn32tab), ("math/bits.deBruijn64tab", Rows.laid_math_bits_deBruijn64tab), ("internal/strconv.uint64pow10", Rows.laid_internal_strconv_uint64pow10), ("unicode/utf8.acceptRanges", Rows.laid_unicode_utf8_acceptRanges),
 ("strconv.ErrRange", Rows.laid_strconv_ErrRange), ("strconv.ErrSyntax", Rows.laid_strconv_ErrSyntax), ("unicode.White_Space", Rows.laid_unicode_White_Space), ("strings.asciiSpace", Rows.laid_strings_asciiSpace), ("unicode.CaseRanges", Rows.laid_unicode_CaseRanges), ("unicode/utf8.first", Rows.laid_unicode_utf8_first)]
noncomputable def rL (os:Os):World:=
 let w0:=World.doorLaid prog 400 os
 let put (h:Array Obj) (g:Nat) (cs:Array Value):Array Obj:=h.modify g fun
  | .cells _ t frozen=>.cells cs t frozen
  | o=>o
 let a:=put w0.heap (Tryz.lays158_ren.g 3) (Lib.firstTab.map fun z=>Value.int .u8 z).toArray
 let b:=put a (Tryz.lays158_ren.g 13) #[.slice (some ⟨(World.doorLaid prog 400 default).heap.size,0,none⟩) 336 336]
 { w0 with heap:=b.push (.cells Lib.caseCells5 (Tryz.lays158_ren.t 208) (0,0)) }
abbrev zN:List (String × DataW Unit):=
 [("math/bits.deBruijn32tab", Rows.laid_math_bits_deBruijn32tab), ("math/bits.deBruijn64tab", Rows.laid_math_bits_deBruijn64tab), ("internal/strconv.uint64pow10", Rows.laid_internal_strconv_uint64pow10), ("unicode/utf8.acceptRanges", Rows.laid_unicode_utf8_acceptRanges),
 ("strconv.ErrRange", Rows.laid_strconv_ErrRange), ("strconv.ErrSyntax", Rows.laid_strconv_ErrSyntax), ("unicode.White_Space", Rows.laid_unicode_White_Space), ("strings.asciiSpace", Rows.laid_strings_asciiSpace)]
theorem PV {P:Program} {w:World}:∀ {l l' : List (String × DataW Unit)} {c:List MemPlace},DataW.LaidVars P w (l++l') c -> ∃ p q,DataW.LaidVars P w l p/\DataW.LaidVars P w l' q/\c=p++q
 | [],_,c,h=>⟨[],c,rfl,h,rfl⟩
 | (n,d) :: r,_,c,h=>by
  obtain ⟨g,t,cs,fuel,p,q,h1,h2,h3,h4,h5,rfl⟩:=h;obtain ⟨a,b,ha,hb,rfl⟩:=PV h5;exact ⟨_,b,⟨g,t,cs,fuel,p,a,h1,h2,h3,h4,ha,rfl⟩,hb,by simp [List.append_assoc]⟩
theorem aRP {P:Program} {w:World} {l:List (String × DataW Unit)} {x y:String × DataW Unit} (h:laidMet P ((l++[x])++[y]) w):laidMet P (l++[y,x]) w:=by
 obtain ⟨f,hv,hn,hc⟩:=h;obtain ⟨p,c,h1,h2,rfl⟩:=PV hv;obtain ⟨a,b,h3,h4,rfl⟩:=PV h1
 have d:(a++(c++b)).Perm (a++b++c):=by
  rw [List.append_assoc];exact List.Perm.append_left a List.perm_append_comm
 refine ⟨a++(c++b),LaidVars_append h3 (LaidVars_append (l:=[y]) h2 h4),d.nodup_iff.2 hn,fun e off hb=>hc e off (d.mem_iff.1 hb)⟩
theorem akX (os : Os) (args : Array Value) : (DataW.laidRun prog ((rL os).forCall (fun _ _ => 0) ⟨#[], args, []⟩).memory 8 ((zN ++ [("unicode/utf8.first", Rows.laid_unicode_utf8_first)]).map (·.1))).map (·.1) = some (zN ++ [("unicode/utf8.first", Rows.laid_unicode_utf8_first)]) := by kernel_rfl
theorem akB (os : Os) (args : Array Value) : (DataW.laidRun prog ((rL os).forCall (fun _ _ => 0) ⟨#[], args, []⟩).memory 8 ((zN ++ [("unicode/utf8.first", Rows.laid_unicode_utf8_first)]).map (·.1))).map (fun x => nodupB (x.2.map MemPlace.codeOf)) = some true := by kernel_rfl
theorem ajV (os : Os) (args : Array Value) : (DataW.laidRun prog ((rL os).forCall (fun _ _ => 0) ⟨#[], args, []⟩).memory 8 ((zN ++ [("unicode/utf8.first", Rows.laid_unicode_utf8_first)]).map (·.1))).map (fun x => laidRowsB prog ((rL os).forCall (fun _ _ => 0) ⟨#[], args, []⟩).memory x.2) = some true := by kernel_rfl
theorem akF (os : Os) (args : Array Value) : (DataW.laidRun prog ((rL os).forCall (fun _ _ => 0) ⟨#[], args, []⟩).memory 8 ((zN ++ [("unicode/utf8.first", Rows.laid_unicode_utf8_first)]).map (·.1))).map (fun x => x.2.all fun p => p.block != Tryz.lays158_ren.g 13&&p.block != (World.doorLaid prog 400 default).heap.size) = some true := by kernel_rfl
theorem akW (os:Os) (args:Array Value):((rL os).forCall (fun _ _=>0) ⟨#[],args,[]⟩).memory.heap[Tryz.lays158_ren.g 13]? = some (.cells #[.slice (some ⟨(World.doorLaid prog 400 default).heap.size,0,none⟩) Lib.caseA.size Lib.caseA.size] (Tryz.lays158_ren.t 162) (0,0)):=by kernel_rfl
theorem ak8 (os:Os) (args:Array Value):((rL os).forCall (fun _ _=>0) ⟨#[],args,[]⟩).memory.heap[(World.doorLaid prog 400 default).heap.size]? = some (.cells Lib.caseCells5 (Tryz.lays158_ren.t 208) (0,0)):=by kernel_rfl
theorem aVX (os : Os) (args : Array Value) : laidMet prog ((zN ++ [("unicode/utf8.first", Rows.laid_unicode_utf8_first)]) ++ [("unicode.CaseRanges", Lib.caseData)]) ((rL os).forCall (fun _ _ => 0) ⟨#[], args, []⟩).memory :=
 laidMet_with_case (ρ:=Tryz.lays158_ren) { Tryz.lays158 with } Tryz.lays158.t206 ⟨by kernel_rfl,by kernel_rfl,by kernel_rfl,by kernel_rfl,by kernel_rfl,by kernel_rfl⟩
  (l := zN ++ [("unicode/utf8.first", Rows.laid_unicode_utf8_first)])
  8 (akX os args) (akB os args) (ajV os args) (World.doorLaid prog 400 default).heap.size (Tryz.lays158_ren.t 208) (of_decide_eq_true (by kernel_rfl)) (akF os args) (akW os args) (ak8 os args)
theorem a9W:Go.Pinned.caseRanges=Lib.caseData:=by kernel_rfl
theorem a2N (os:Os) (args:Array Value):laidMetH prog GS ((rL os).forCall (fun _ _=>0) ⟨#[],args,[]⟩).memory:=by
 rw [MakeChecks.laidMetH_plain _ _ _ (by kernel_rfl)];have h:=aRP (aVX os args);rw [<- a9W] at h;exact h
def GD:List Int:=(List.range 256).map fun i=>cond (Nat.beq i 9 || (Nat.beq i 10 || (Nat.beq i 11 || (Nat.beq i 12 || (Nat.beq i 13 || Nat.beq i 32))))) 1 0
theorem a04:(Rows.laid_strings_asciiSpace:DataW Unit)=Lib.tabData .u8 GD:=by kernel_rfl
theorem aEG:Go.Ra.VJ=GD.map (Ab.V.int .u8):=by kernel_rfl
theorem a73 {W : World} (h : Lib.TabIs prog W "strings.asciiSpace" .u8 GD) : Ab.R W (fun _ _ => False) [] (.pin Go.Ra.VJ) (.pointer (some ⟨3, 0, none⟩)) := by
 refine .pin _ _ 3 0 (fun k=>.int .u8 (GD.getD k 0)) (fun k hk=>⟨fun h=>h,?_⟩) (fun k v hv=>?_)
 ·rw [aEG,List.length_map] at hk
  rw [Nat.zero_add];exact h.cell (by kernel_rfl) k hk
 ·rw [aEG,List.getElem?_map] at hv
  cases hz:GD[k]? with
  | none=>rw [hz] at hv; cases hv
  | some z =>
   rw [hz] at hv;simp only [Option.map_some,ZH3] at hv;subst hv;rw [List.getD,hz];exact .int _ _ _
theorem star : "*" ++ "errors.errorString" = "*errors.errorString" := by decide
theorem a9O (u : TypeId) (h : prog.typeName? 3 u = some "*errors.errorString") : u = 354 :=
 typeName_ptr_named (nm := "errors.errorString") (by rw [star]; kernel_rfl) (by kernel_rfl) (by decide) u (by rw [star]; exact h)
theorem aVV {W:World} (h:laidMetH prog GS W):Ab.Gs prog W fun _ _=>False:=by
 rw [MakeChecks.laidMetH_plain _ _ _ (by kernel_rfl)] at h;have hs:=h.tail.tail.tail.tail.tail;have ha:=hs.tail.tail;intro p hp;rw [Go.Ra.a42] at hp
 rcases ZE3.1 hp with rfl | hp
 ·rw [a04] at ha
  exact a73 (Lib.tabIs_of_head (g:=3) (t:=296) (n:=256) (e:=5) (by kernel_rfl) (by kernel_rfl) (by kernel_rfl) (by kernel_rfl) (by kernel_rfl) (by kernel_rfl) ha)
 ·rcases ZE3.1 hp with rfl | hp
  ·obtain ⟨a, s, hv, _⟩ := laid_sentinel hs (g := 6) (tp := 354) (ti := 248) (te := 356) (ts := 9) (f := { name := "s", type := 9, offset := 0, embedded := false, tag := "", pkgPath := "errors", byteOffset := 0 }) (ms := #[("Error", 287)]) (by kernel_rfl) (by kernel_rfl) (by kernel_rfl) a9O (by kernel_rfl) (by kernel_rfl) rfl rfl (by kernel_rfl) (by kernel_rfl) (by kernel_rfl)
   refine .pin _ _ 6 0 (fun _=>.iface 354 (.pointer (some a))) (fun k hk=>⟨fun h=>h,?_⟩) (fun k v hv=>?_)
   ·have hk0:k=0:=by simpa using hk
    subst hk0
    have := World.var?_cell (show prog.globalNamed "strconv.ErrSyntax" = some 6 by kernel_rfl) hv 0
    simpa using this
   ·match k,hv with
    | 0,hv =>
     simp only [List.getElem?_cons_zero,ZH3] at hv;subst hv;exact .ifc _ _ _ _ (.any _ _)
    | k+1,hv=>simp at hv
  ·cases hp
theorem own:ownKnob prog.godebug=none:=by kernel_rfl
theorem laidOut:laidOutB prog=true:=by kernel_rfl
end Go.Proofs.YtbefgnmdliefjaaGreatDoor
