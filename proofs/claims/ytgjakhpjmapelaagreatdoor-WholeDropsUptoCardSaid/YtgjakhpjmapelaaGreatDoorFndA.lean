/- Proved: eyewitnesstop.WholeDrops answers true at every input of bulk at most 1048576, and each argument reads afterwards as it did; no condition but the statement's own. Printed by my own tool (wip/tool/close.py): the end of the row. -/
import Derived.Test.YtgjakhpjmapelaaGreatDoorPwnB
import Derived.Test.YtgjakhpjmapelaaGreatDoorHenE
import Derived.Test.YtgjakhpjmapelaaGreatDoorRows
import Derived.Test.YtgjakhpjmapelaaGreatDoorPwnD
import Derived.Test.YtgjakhpjmapelaaGreatDoorTie
import Derived.Test.YtgjakhpjmapelaaGreatDoorCards
import Derived.SevenTiedAt
import Derived.LaidMore
import Derived.Lay
import Derived.Stop.Joined
import Derived.Deep.DeepHandedRow
import Derived.JoinedCond
import Derived.Test.YtgjakhpjmapelaaGreatDoorPwnA
import Derived.Test.YtgjakhpjmapelaaGreatDoorPwnC
import Derived.Test.YtgjakhpjmapelaaGreatDoorHenA
import Derived.Test.YtgjakhpjmapelaaGreatDoorHenB
import Derived.Test.YtgjakhpjmapelaaGreatDoorHenC
import Derived.Test.YtgjakhpjmapelaaGreatDoorHenD
set_option linter.unusedVariables false
set_option linter.unusedSimpArgs false
namespace Go.Proofs.YtgjakhpjmapelaaGreatDoor
open Go Go.Ew Go.ChangeShapes Go.WideShapes Go.ChangeAt Go.RowKit
theorem cs5:Tryz.prog.cellsOf 5=1:=by kernel_rfl
theorem ajt:Tryz.prog.cellsOf 37=1:=by kernel_rfl
theorem ajs:Tryz.prog.cellsOf 40=1:=by kernel_rfl
theorem cs3:Tryz.prog.cellsOf 3=1:=by kernel_rfl
theorem cs9:Tryz.prog.cellsOf 9=1:=by kernel_rfl
theorem cs4:Tryz.prog.cellsOf 4=1:=by kernel_rfl
theorem adT:Tryz.prog.cellsOf 43=3:=by kernel_rfl
theorem HJ:ownKnob Tryz.prog.godebug=none:=by kernel_rfl
theorem Gs:Kids Tryz.prog (·<Tryz.prog.types.size):=kids_rows (by kernel_rfl) (by kernel_rfl)
theorem GK:∀t e,t<Tryz.prog.types.size→Tryz.prog.underlying t=some (.slice e)→0<Tryz.prog.cellsOf e:=slices_full_of Tryz.prog (by kernel_rfl)
theorem GJ:Tryz.prog.globalNamed "math/bits.deBruijn64tab"=some 0:=by kernel_rfl
theorem F1:(Tryz.prog.globals[0]?).map (·.type)=some 227:=by kernel_rfl
theorem G3 (os:Os) (args:Array Value):laidMetH Tryz.prog [("math/bits.deBruijn64tab",Rows.laid_math_bits_deBruijn64tab),("unicode/utf8.acceptRanges",Rows.laid_unicode_utf8_acceptRanges),("unicode/utf8.first",Rows.laid_unicode_utf8_first)] ((World.laidAll Tryz.prog os [("math/bits.deBruijn64tab",Rows.laid_math_bits_deBruijn64tab),("unicode/utf8.acceptRanges",Rows.laid_unicode_utf8_acceptRanges),("unicode/utf8.first",Rows.laid_unicode_utf8_first)]).forCall (fun _ _=>0) ⟨#[],args,[]⟩).memory:=
  by rw[MakeChecks.laidMetH_plain _ _ _ (by kernel_rfl)];exact laidMet_laidAll _ (by kernel_rfl) (by kernel_rfl)
theorem FA {P:Program} {n:String} {d:DataW Unit} {r:List (String×DataW Unit)} {W:World} (h:laidMet P ((n,d)::r) W):laidMet P [(n,d)] W:=by
  obtain⟨ps,⟨g,t,cs,f,p,q,h1,h2,h3,h4,h5,rfl⟩,hn,ho⟩:=h
  exact⟨_,⟨g,t,cs,f,p,[],h1,h2,h3,h4,J,J⟩,by rw[List.append_nil];exact(List.nodup_append.1 hn).1,fun b o hb=>ho b o (by rw[List.append_nil] at hb;exact List.mem_append_left _ hb)⟩
theorem Hx {W:World} (h:laidMetH Tryz.prog [("math/bits.deBruijn64tab",Rows.laid_math_bits_deBruijn64tab),("unicode/utf8.acceptRanges",Rows.laid_unicode_utf8_acceptRanges),("unicode/utf8.first",Rows.laid_unicode_utf8_first)] W):fP 0 W:=by
  rw[MakeChecks.laidMetH_plain _ _ _ (by kernel_rfl)] at h
  exact Ni (D:=Rows.laid_math_bits_deBruijn64tab) GJ F1 Xn IA cs5 J (by rw[MakeChecks.laidMetH_plain _ _ _ (by kernel_rfl)];exact FA h)<|by rw[MakeChecks.laidMetH_plain _ _ _ (by kernel_rfl)]
theorem sN {H:Type}:∀l:List (DataW H),Rows.uptoBulkAll l=(l.map Rows.uptoBulk).sum
  |[]=>by simp[Rows.uptoBulkAll]
  |x::r=>by simp[Rows.uptoBulkAll,sN r]
theorem lY:Iu (fun (H:Type) (d:DataW H)=>Rows.uptoBulk d) where
  lit _ l:=by cases l<;>simp[Rows.uptoBulk]
  str _ bs:=by simp[Rows.uptoBulk]
  nil _:=by simp[Rows.uptoBulk]
  slice _ es sp:=by show (es.map Rows.uptoBulk).sum+1≤_;simp only[Rows.uptoBulk,sN];omega
  agg _ ps:=by show (ps.map Rows.uptoBulk).sum≤_;simp only[Rows.uptoBulk,sN];omega
theorem Hr (os:Os) {H:Type} (enc:TypeId×Value→H):∃(w:World) (tape:Tape) (i:Input),w.os=os∧(w.forCall tape i).Shaped Tryz.prog∧i.vars=[]∧Input.okWide Tryz.prog (w.forCall tape i) .any w.heap.size 6 i∧(Rows.OpenSpec.upto Rows.wholeDropsSpec).preRow enc Tryz.prog Tryz.f6 Rows.wholeDropsUptoRow.domain false Rows.wholeDropsUptoRow.laid (w.forCall tape i).memory i.args∧({}:Assume).holds Tryz.prog (lone (Frame.enter Tryz.prog 6 i.args .normal) [] (w.forCall tape i)):=
  have qd:Input.okWideB Tryz.prog ((World.laidAll Tryz.prog os [("math/bits.deBruijn64tab",Rows.laid_math_bits_deBruijn64tab),("unicode/utf8.acceptRanges",Rows.laid_unicode_utf8_acceptRanges),("unicode/utf8.first",Rows.laid_unicode_utf8_first)]).forCall (fun _ _=>0) ⟨#[],#[.slice none 0 0,.int .u8 0,.int .u8 0],[]⟩) 6 ⟨#[],#[.slice none 0 0,.int .u8 0,.int .u8 0],[]⟩=true:=by kernel_rfl
  ⟨World.laidAll Tryz.prog os [("math/bits.deBruijn64tab",Rows.laid_math_bits_deBruijn64tab),("unicode/utf8.acceptRanges",Rows.laid_unicode_utf8_acceptRanges),("unicode/utf8.first",Rows.laid_unicode_utf8_first)],fun _ _=>0,⟨#[],#[.slice none 0 0,.int .u8 0,.int .u8 0],[]⟩,World.laidAll_os _ _ _,World.shaped_of_ZipB (by kernel_rfl) (by kernel_rfl),(Input.okWide_of_okWideB (base:=0) qd).1,(Input.okWide_of_okWideB qd).2,
    ⟨⟨(OpenSpec.pre_some (k:=Rows.uptoSmall) rfl _ _ _ _).2 ⟨[.nil,.lit (.int .u8 0),.lit (.int .u8 0)],[],[],DataW.Whole_of_whole (x:=([.nil,.lit (.int .u8 0),.lit (.int .u8 0)],[],[])) (fuel:=8) (by kernel_rfl),rfl,by kernel_rfl⟩,G3 os _⟩,sizedMet_of_sizedB (fuel:=8) (by kernel_rfl)⟩,by
    simp only[Assume.holds]
    exact⟨by simp,by simp,fun _=>Modest.zero,by simp,by simp⟩⟩
set_option maxRecDepth 100000 in
set_option maxHeartbeats 400000 in
theorem D0 (os:Os) (started:os.Started) (H:Type) (enc:TypeId×Value→H) (F:Stop.Interp):
    ReturnsInHanded {} Tryz.checked os 6 .any ((Rows.OpenSpec.upto Rows.wholeDropsSpec).preRow enc Tryz.prog Tryz.f6 Rows.wholeDropsUptoRow.domain false Rows.wholeDropsUptoRow.laid) (((Rows.OpenSpec.upto Rows.wholeDropsSpec).at F).post enc Tryz.prog Tryz.f6 false true false false):=by
  refine returnsInHanded_of_row (C:=Tryz.checked) (s:=Rows.OpenSpec.upto Rows.wholeDropsSpec) HJ started (by kernel_rfl) Tryz.func6 (Hr os enc) ?_
  intro W base args ds gs before afc hW _ cB _ hL _ _
  have hk:=cB Rows.uptoSmall J
  have Qn:∀(j:Nat) t v,Tryz.f6.params[j]? =some t→args[j]? =some v→Value.okWide Tryz.prog W .any base t v:=afc
  have hW':=hW
  obtain⟨p,q,ct,hV,Gy,hfz,lO⟩:=hW
  have hA:DataW.TrodAll enc Tryz.prog W 0 (fun _=>true) true Tryz.f6.params.toList args.toList ds p:=ct
  rw[Tryz.params6] at hA Qn
  obtain⟨v0,vs0,d0,ds0,p0,q0,QD,rfl,rfl,h0,tl0⟩:=trodAll_cons hA
  obtain⟨v1,vs1,d1,ds1,p1,q1,rfl,rfl,rfl,h1,tl1⟩:=trodAll_cons tl0
  obtain⟨v2,ll,d2,ds2,p2,q2,rfl,rfl,rfl,h2,tl2⟩:=trodAll_cons tl1
  obtain⟨rfl,rfl,rfl⟩:=trodAll_nil tl2
  obtain rfl:args=#[v0,v1,v2]:=by cases args;simp_all
  obtain⟨rfl,rfl⟩:=trodVars_none hV
  obtain⟨h,gk,gj,rfl,lU,al6⟩:=PG (α:=(List (Bool×ByteArray×Int))) ml (Cv lY ajt ml (Cv lY ajs nY (JJ lY Tryz.underlying43 adT (by rw[adT];exact(Cu rfl (NC lY cs4 un4) rfl (Cu rfl (JK lY cs9 mC) rfl (NB rfl (Qb lY cs3 zB) rfl))))))) (Qn 0 37 v0 rfl rfl) h0
  obtain⟨VI,rfl⟩:=Rw IA (Qn 1 5 v1 rfl rfl) h1
  have Yl:0≤((VI.toNat:Nat):Int)∧((VI.toNat:Nat):Int)≤255:=by have:=VI.isLt;omega
  obtain⟨UL,rfl⟩:=Rw IA (Qn 2 5 v2 rfl rfl) h2
  have Yi:0≤((UL.toNat:Nat):Int)∧((UL.toNat:Nat):Int)≤255:=by have:=UL.isLt;omega
  have hk':Rows.uptoBulkAll _≤1048576:=of_decide_eq_true hk
  simp only[Rows.uptoBulkAll,List.append_nil,List.nil_append,List.cons_append] at hk'
  refine(HN (M:=M6) (fun _ h=>h.elim) (Hx hL) lU Yl Yi (Nat.le_trans (Y_ (NR<|NR aaS) _)<|by dsimp only at *;omega)<|Nat.le_trans (show h.length≤Wt.wt h from Nat.le_succ_of_le (Ky (fun l=>Nat.le_add_left 1 _) _))<|by dsimp only at *;omega).mono fun e W' ⟨v,he,hv,hg⟩=>?_
  subst he;subst hv
  exact⟨_,J,SD Gs GK (by rw[Tryz.params6];decide) rfl hW' hg rfl un4 rfl rfl rfl⟩
theorem F':Rows.wholeDropsUptoRow.holds Tryz.pinned (Rows.OpenSpec.upto Rows.wholeDropsSpec):=
  OpenClaim.holds_of_cond 6 Tryz.f6 rfl rfl rfl rfl rfl rfl rfl ⟨rfl,rfl,rfl,rfl,rfl⟩ rfl rfl rfl rfl rfl (by kernel_rfl) Tryz.func6 (by kernel_rfl)
    (of_decide_eq_true (by kernel_rfl)) (by unfold Func.isWrapper;first|(rw[if_pos (by decide +kernel)];kernel_rfl)|(rw[if_neg (by decide +kernel)];exact⟨rfl,rfl⟩))
    (fun os started H enc _ F=>by rw[OpenClaim.pre_eq_preRow];exact D0 os started H enc F)
theorem wholeDrops_proved:Rows.WholeDropsUptoCardSaid:=
  Claim7.holds_tied_plain_at .later [] [.data,.data,.pinned] true (true,"a94570fda837b6158c9b214ce3c6f28cc7b03d543e8d1f90ec427e4c905bf393") false F' (fun _ h=>by cases h) (by kernel_rfl) (fun _ h=>by cases h) wholeDropsUpto_row_tie rfl ⟨rfl,rfl⟩ (by kernel_rfl) rfl
    (fun f fn hf hfn=>by
      obtain rfl:f=6:=Option.some.inj ((show Tryz.prog.funcNamed "eyewitness/eyewitnesstop.WholeDrops"=some 6 by kernel_rfl).symm.trans hf) |>.symm
      obtain rfl:fn=Tryz.f6:=(Option.some.inj (Tryz.func6.symm.trans hfn)).symm
      exact⟨by kernel_rfl,fun j t ht=>by
        rw[Tryz.params6] at ht
        have hm:t∈[37,5,5]:=by simpa using Array.mem_of_getElem? ht
        have oM:([37,5,5].all fun u=>!Tryz.prog.wantsStandIn u)=true:=by kernel_rfl
        exact(show Tryz.prog.wantsStandIn t=false by simpa using List.all_eq_true.1 oM t hm)⟩)
    (by kernel_rfl)
#print axioms wholeDrops_proved
end Go.Proofs.YtgjakhpjmapelaaGreatDoor
