/- A part of a proof. Its conditions: none. -/
import Derived.Test.YtjlgpanihjnaeaaGreatDoorAmXDfKey
import Derived.Test.YtjlgpanihjnaeaaGreatDoorAmXLfNan
import Derived.Test.YtjlgpanihjnaeaaGreatDoorAmC
import Derived.Test.YtjlgpanihjnaeaaGreatDoorAmXFacts
import Derived.Test.YtjlgpanihjnaeaaGreatDoorRows
import Derived.Test.YtjlgpanihjnaeaaGreatDoorAmD
set_option linter.all false
namespace Go.Proofs.YtjlgpanihjnaeaaGreatDoor
open Go.AM
set_option maxRecDepth 100000
def tens:List Value:=[.int .u64 1,.int .u64 10,.int .u64 100,.int .u64 1000,.int .u64 10000,.int .u64 100000,.int .u64 1000000,.int .u64 10000000,.int .u64 100000000,.int .u64 1000000000,.int .u64 10000000000,.int .u64 100000000000,.int .u64 1000000000000,.int .u64 10000000000000,.int .u64 100000000000000,.int .u64 1000000000000000,.int .u64 10000000000000000,.int .u64 100000000000000000,.int .u64 1000000000000000000,.int .u64 10000000000000000000]
theorem tens_flat:tens.all flat1=true:=by kernel_rfl
theorem live_lt0{n:Nat}{H:Heap}(hw:WF n H){z:Nat}(h:H z≠.dead):z<n:=by
 apply Classical.byContradiction
 intro hc
 exact h (hw z (by omega))
def Tens(H:Heap):Prop:=H 1=.cells tens 159 false
theorem Tens.kp{n n':Nat}{H H':Heap}(h:Tens H)(hw:WF n H)(hk:Kp n H n' H'):Tens H':=by
 unfold Tens at *
 rw[hk.keep _ (live_lt0 hw (by rw[h];intro e;cases e)),h]
def G:Heap:=fun x=>cond (Nat.beq x 1) (.cells tens 159 false) .dead
noncomputable def GT:Trie AObj:=(Trie.bare 14 0).set 1 (.cells tens 159 false)
theorem GT_get:GT.get .dead=G:=by
 funext x
 show Trie.get AObj.dead ((Trie.bare 14 0:Trie AObj).set 1 (AObj.cells tens 159 false)) x=_
 rw[Trie.set_get,Trie.bare_get]
 rfl
theorem G_spec(x:Nat)(h:G x≠.dead):x<ngl Tryz.prog∧∃cs ty,G x=.cells cs ty false∧cs.all flat1=true:=by
 have h3:1<ngl Tryz.prog:=by exact of_decide_eq_true (by kernel_rfl)
 unfold G at h ⊢
 cases e3:Nat.beq x 1 with
 | true=>rw[Nat.eq_of_beq_eq_true e3];exact⟨h3,_,_,rfl,tens_flat⟩
 | false=>simp[e3]at h
theorem tens_of{H:Heap}(hG:∀x,G x≠.dead→H x=G x):Tens H:=by
 have h:G 1=.cells tens 159 false:=rfl
 unfold Tens
 rw[hG _ (by rw[h];intro e;cases e),h]
theorem ev_gives{f:FuncId}{args:List Value}{r:Value}(h:(evCallT Tryz.prog (fun g=>fns.contains g) 20000 0 f args (ngl Tryz.prog) GT).map (·.1)=some r)(ha:args.all flat1=true)(hr:flat1 r=true)(n:Nat)(H:Heap)(hG:∀x,G x≠.dead→H x=G x):Gives Tryz.prog f args n H fun v n' H'=>v=r∧n'=n∧H'=H:=by
 cases he:evCallT Tryz.prog (fun g=>fns.contains g) 20000 0 f args (ngl Tryz.prog) GT with
 | none=>rw[he]at h;cases h
 | some r =>
  obtain⟨v,n1,H1⟩:=r
  rw[he]at h
  simp only[Option.map_some,Option.some.injEq]at h
  subst h
  have he2:=evCallT_eq _ _ _ _ _ _ _ _ _ he
  rw[GT_get]at he2
  obtain⟨h1,_⟩:=evCall_sound orders oks 20000 _ _ _ _ _ _ _ _ he2
  refine⟨v,n,H,.closed h1 (fun x hx=>?_) (fun x hx=>⟨(G_spec x hx).2,hG x hx⟩) ha hr,Kp.refl n H,rfl,rfl,rfl⟩
  apply Classical.byContradiction
  intro hd
  have:=(G_spec x hd).1
  omega
theorem hG_of{H:Heap}(h:Tens H):∀x,G x≠.dead→H x=G x:=fun x hx=>by
 unfold G at hx ⊢
 cases e:Nat.beq x 1 with
 | true=>rw[Nat.eq_of_beq_eq_true e];exact h
 | false=>simp[e]at hx
theorem itoam_ev:(evCallT Tryz.prog (fun g=>fns.contains g) 20000 0 39 [.int .i64 (-1)] (ngl Tryz.prog) GT).map (·.1)=some (.string (BA (dI (-1)))):=by kernel_rfl
theorem fmtint_gives(m:Nat)(h2:m<100){n:Nat}{H:Heap} :
  Gives Tryz.prog 73 [.int .i64 (m:Nat),.int .i64 10] n H fun v n' H'=>v=.string (BA (dN m)):=by
 refine Gives.of orders ok73 (Nat.le_of_ble_eq_true rfl) ?_
 have c10:((10:Int)=10)=True:=by simp
 have hz0:((0:Int)≤(m:Int))=True:=by simp
 have hz1:((m:Int)<100)=True:=by simp only[eq_iff_iff,iff_true];omega
 repeat (first|refine qqm rfl ?_|((first|refine qqr ?_|refine qqt ?_);simp only[SS,qg0,qgb,qgs,qgi,qga,qgx,tor,vconv,vun,Go.AM.splice,one,tpick,textr,simprocAttr,c10,hz0,hz1,ff_73]))
 refine AtCall.by (small_gives m (by omega) _ _) ?_
 rintro v n' H' hk ⟨rfl,rfl,rfl⟩
 simp only[SS,qg0,qgb,qgs,qgi,qga,qgx,tor,vconv,vun,Go.AM.splice,one,tpick,textr,simprocAttr,ff_73]
 repeat (first|refine qqm rfl ?_|((first|refine qqr ?_|refine qqt ?_);simp only[SS,qg0,qgb,qgs,qgi,qga,qgx,tor,vconv,vun,Go.AM.splice,one,tpick,textr,simprocAttr,ff_73]))
 first|refine qqf ?_ ?_|refine qqg ?_ ?_
 ·exact fun _ _=>rfl
 ·simp only[packed,qv,Nat.reduceEqDiff,↓reduceIte,ff_73]
theorem itoa1_gives(m:Nat)(h2:m<100){n:Nat}{H:Heap} :
  Gives Tryz.prog 58 [.int .i64 (m:Nat)] n H fun v _ _=>v=.string (BA (dN m)):=by
 refine Gives.of orders ok58 (Nat.le_of_ble_eq_true rfl) ?_
 repeat (first|refine qqm rfl ?_|((first|refine qqr ?_|refine qqt ?_);simp only[SS,qg0,simprocAttr]))
 refine AtCall.by (fmtint_gives m h2) ?_
 rintro v n' H' hk rfl
 simp only[SS,qg0,simprocAttr]
 repeat (first|refine qqm rfl ?_|((first|refine qqr ?_|refine qqt ?_);simp only[SS,qg0,simprocAttr]))
 first|refine qqf ?_ ?_|refine qqg ?_ ?_
 ·exact hk.keep
 ·simp only[packed,qv,Nat.reduceEqDiff,↓reduceIte]
theorem itoa_gives(z:Int)(h1 : -1≤z)(h2:z<100){n:Nat}{H:Heap}(ht:Tens H) :
  Gives Tryz.prog 39 [.int .i64 z] n H fun v _ _=>v=.string (BA (dI z)):=by
 by_cases h0:0≤z
 ·obtain⟨m,rfl⟩:∃m:Nat,z=(m:Int):=⟨z.toNat,by omega⟩
  rw[dIp m]
  refine Gives.of orders ok39 (Nat.le_of_ble_eq_true rfl) ?_
  repeat (first|refine qqm rfl ?_|((first|refine qqr ?_|refine qqt ?_);simp only[SS,qg0,simprocAttr]))
  refine AtCall.by (itoa1_gives m (by omega)) ?_
  rintro v n' H' hk rfl
  simp only[SS,qg0,simprocAttr]
  repeat (first|refine qqm rfl ?_|((first|refine qqr ?_|refine qqt ?_);simp only[SS,qg0,simprocAttr]))
  first|refine qqf ?_ ?_|refine qqg ?_ ?_
  ·exact hk.keep
  ·simp only[packed,qv,Nat.reduceEqDiff,↓reduceIte]
 ·obtain rfl:z = -1:=by omega
  obtain⟨v,n',H',h,k,e,_⟩:=ev_gives itoam_ev rfl rfl n H (hG_of ht)
  exact⟨v,n',H',h,k,e⟩
end Go.Proofs.YtjlgpanihjnaeaaGreatDoor

namespace Go.Proofs.YtjlgpanihjnaeaaGreatDoor
open Go.AM
set_option maxRecDepth 100000
theorem und_22:Tryz.prog.underlying 22=some (.slice 9):=by kernel_rfl
theorem und_23:Tryz.prog.underlying 23=some (.slice 63):=by kernel_rfl
theorem und_26:Tryz.prog.underlying 26=some (.slice 3):=by kernel_rfl
theorem und_25:∃f1 f2 f3:Field,Tryz.prog.underlying 25=some (.struct #[f1,f2,f3])∧f1.type=22∧f1.offset=0∧f2.type=22∧f2.offset=1∧f3.type=23∧f3.offset=2 :=
 ⟨{ name := "Terms", type := 22, offset := 0, embedded := false, tag := "", pkgPath := "", byteOffset := 0 }, { name := "Vars", type := 22, offset := 1, embedded := false, tag := "", pkgPath := "", byteOffset := 24 },
  { name := "Rules", type := 23, offset := 2, embedded := false, tag := "", pkgPath := "", byteOffset := 48 }, by kernel_rfl, rfl, rfl, rfl, rfl, rfl, rfl⟩
theorem und_63:∃f1 f2 f3:Field,Tryz.prog.underlying 63=some (.struct #[f1,f2,f3])∧f1.type=3∧f1.offset=0∧f2.type=26∧f2.offset=1∧f3.type=61∧f3.offset=2 :=
 ⟨{ name := "Left", type := 3, offset := 0, embedded := false, tag := "", pkgPath := "", byteOffset := 0 }, { name := "Right", type := 26, offset := 1, embedded := false, tag := "", pkgPath := "", byteOffset := 8 },
  { name := "Weight", type := 61, offset := 2, embedded := false, tag := "", pkgPath := "", byteOffset := 32 }, by kernel_rfl, rfl, rfl, rfl, rfl, rfl, rfl⟩
theorem gramT:GramT Tryz.prog 25 63 3 9 22 23 26 61:=⟨und_25,und_63,und_3,und_9,und_22,und_23,und_26,und_61,csz_3,csz_9,csz_22,csz_23,csz_26,csz_61,csz_63,csz_25⟩
theorem own:ownKnob Tryz.prog.godebug=none:=by kernel_rfl
theorem laid:laidOutB Tryz.prog=true:=by kernel_rfl
end Go.Proofs.YtjlgpanihjnaeaaGreatDoor

namespace Go.Proofs.YtjlgpanihjnaeaaGreatDoor
open Go.AM
set_option maxRecDepth 100000
theorem gTypes:(Tryz.prog.globals[1]?).map (·.type)=some 159:=by kernel_rfl
theorem globs {W : World} {l : List (String × DataW Unit)} (h : laidMet Tryz.prog l W) (hs : W.ShapedOpen Tryz.prog)
    (l2 : ∃ i : Nat, l[i]? = some ("internal/strconv.uint64pow10", Rows.laid_internal_strconv_uint64pow10)) : Globs Tryz.prog W G := by
  obtain ⟨ps, hl, _, _⟩ := h
  have c3 : ∀ (i : Nat) (v : Value), tens[i]? = some v → W.cell? ⟨1, i, none⟩ = some v := by
    obtain ⟨i, e⟩ := l2
    obtain ⟨g, t, cs, fuel, p, h1, h2, h3, h4⟩ := laid_at hl i _ _ e
    obtain rfl := Option.some.inj ((show Tryz.prog.globalNamed "internal/strconv.uint64pow10" = some 1 by kernel_rfl).symm.trans h1)
    obtain rfl := Option.some.inj (gTypes.symm.trans h2)
    have hc : cs.toList = tens := Lib.cells_of_tab (n := 20) (e := 125) (k := .u64) (zs := [1, 10, 100, 1000, 10000, 100000, 1000000, 10000000, 100000000, 1000000000, 10000000000, 100000000000, 1000000000000, 10000000000000, 100000000000000, 1000000000000000, 10000000000000000, 100000000000000000, 1000000000000000000, 10000000000000000000]) (by kernel_rfl) (by kernel_rfl) (by kernel_rfl) (by kernel_rfl) h4
    intro i v e
    rw [World.var?_cell h1 h3 i]
    rw [← hc] at e
    simpa using e
  refine ⟨fun x hx => ?_, fun x hx => ?_, ?_, ?_⟩
  · apply Classical.byContradiction
    intro hd
    have := (G_spec x hd).1
    omega
  · unfold G at hx ⊢
    cases e3 : Nat.beq x 1 with
    | true => rw [Nat.eq_of_beq_eq_true e3]; exact ⟨_, _, rfl, tens_flat, c3⟩
    | false => simp [e3] at hx
  · have hlast : ngl Tryz.prog - 1 < W.heap.size := by
      have hsome : (((begin Tryz.prog (fun _ _ => 0) default).world.heap[ngl Tryz.prog - 1]?).bind Obj.row?).isSome = true := by kernel_rfl
      obtain ⟨⟨z, t⟩, hz⟩ := Option.isSome_iff_exists.1 hsome
      exact heap_of_shaped hs (of_decide_eq_true (by kernel_rfl)) hz
    omega
  · have hsome : (((begin Tryz.prog (fun _ _ => 0) default).world.heap[ngl Tryz.prog - 1]?).bind Obj.row?).isSome = true := by kernel_rfl
    obtain ⟨⟨z, t⟩, hz⟩ := Option.isSome_iff_exists.1 hsome
    have := heap_of_shaped hs (of_decide_eq_true (by kernel_rfl)) hz
    omega
noncomputable def deB32:List Value:=[0,1,28,2,29,14,24,3,30,22,20,15,25,17,4,8,31,27,13,23,21,19,16,7,26,12,18,6,11,5,10,9].map (Value.int .u8)
noncomputable def deB64:List Value:=[0,1,56,2,57,49,28,3,61,58,42,50,38,29,17,4,62,47,59,36,45,43,51,22,53,39,33,30,24,18,12,5,63,55,48,27,60,41,37,16,46,35,44,21,52,32,23,11,54,26,40,15,34,20,31,10,25,14,19,9,13,8,7,6].map (Value.int .u8)
noncomputable def rest:List Obj:=[.cells ((List.range Tryz.prog.types.size).map fun i=>.int .u64 i).toArray 0,.map #[] 0,.finalizers #[] none,.cells #[.bool false] 0,.finalizers #[] none]
noncomputable def laidHeap:Array Obj:=(([((begin Tryz.prog (fun _ _=>0) default).world.heap.toList.getD 0 (.map #[] 0)),.cells tens.toArray 159,.cells deB32.toArray 164,.cells deB64.toArray 165]:List Obj)++rest).toArray
noncomputable def laidWorld(os:Os):World:={ World.settled Tryz.prog os with heap:=laidHeap }
theorem laid_world(w:World)(hw:w.heap=laidHeap):laidMet Tryz.prog Rows.miniBuildsRow.laid w:=by
 have hv:∀(nm:String) (g:Nat) (cs:List Value) (t:TypeId),Tryz.prog.globalNamed nm=some g→laidHeap[g]? = some (.cells cs.toArray t (0,0))→w.var? Tryz.prog nm=some cs.toArray:=by
  intro nm g cs t h1 h2
  unfold World.var?
  rw[h1,hw]
  simp[h2]
 refine laidMet_mk (ps:=MemPlace.row ⟨2,0,none⟩ 32++[]++(MemPlace.row ⟨3,0,none⟩ 64++[]++(MemPlace.row ⟨1,0,none⟩ 20++[]++[]))) 1400 [2,3,1] ?_ (by kernel_rfl) (by kernel_rfl) ?_
 ·exact ⟨2, 164, deB32.toArray, 2, [], _, by kernel_rfl, by kernel_rfl, hv "math/bits.deBruijn32tab" 2 deB32 164 (by kernel_rfl) rfl, by kernel_rfl, ⟨3, 165, deB64.toArray, 2, [], _, by kernel_rfl, by kernel_rfl, hv "math/bits.deBruijn64tab" 3 deB64 165 (by kernel_rfl) rfl, by kernel_rfl, ⟨1, 159, tens.toArray, 2, [], _, by kernel_rfl, by kernel_rfl, hv "internal/strconv.uint64pow10" 1 tens 159 (by kernel_rfl) rfl, by kernel_rfl, rfl, rfl⟩, rfl⟩, rfl⟩
 ·intro b hb
  simp only[List.mem_cons,List.mem_nil_iff,or_false]at hb
  rcases hb with rfl|rfl|rfl
  ·exact⟨(deB32).toArray,164,by rw[hw];rfl,by kernel_rfl⟩
  ·exact⟨(deB64).toArray,165,by rw[hw];rfl,by kernel_rfl⟩
  ·exact⟨(tens).toArray,159,by rw[hw];rfl,by kernel_rfl⟩
end Go.Proofs.YtjlgpanihjnaeaaGreatDoor

namespace Go.Proofs.YtjlgpanihjnaeaaGreatDoor
open Go.AM
set_option maxRecDepth 100000
theorem alive16_ev:(evCallT Tryz.prog (fun g=>fns.contains g) 20000 0 4 [] (ngl Tryz.prog) GT).map (·.1)=some (.bool true):=by kernel_rfl
theorem alive16_gives(n:Nat)(H:Heap)(hG:∀x,G x≠.dead→H x=G x):Gives Tryz.prog 4 [] n H fun v n' H'=>v=.bool true∧n'=n∧H'=H:=ev_gives alive16_ev rfl rfl n H hG
end Go.Proofs.YtjlgpanihjnaeaaGreatDoor

namespace Go.Proofs.YtjlgpanihjnaeaaGreatDoor
open Go.AM
set_option maxRecDepth 100000
theorem ext_noesc(y k:Nat):aext Tryz.prog 72 [.pointer (some ⟨y,k,none⟩)]=some (.pointer (some ⟨y,k,none⟩)):=by
 have h : (match Tryz.prog.funcs[72]? with | some fn => fn.body.isNone && fn.origin == "" && fn.name == "internal/abi.NoEscape" | none => false) = true := by kernel_rfl
 unfold aext
 split at h
 ·rename_i fn hf
  simp only[Bool.and_eq_true]at h
  simp[hf,h]
 ·cases h
theorem auns_out{H:Heap}{o:Nat}{cs:List Value}{ty:TypeId}{own:Bool}(h:H o=.cells cs ty own)(hl:0<cs.length):aunsafe Tryz.prog 84 121 H o 0=some { v:=.pointer (some ⟨o,0,none⟩),rd:=[o] }:=by
 have h1:Tryz.prog.underlying 84=some (.pointer 87):=by kernel_rfl
 have h2:Tryz.prog.underlying 121=some .unsafePointer:=by kernel_rfl
 have h3:((Tryz.prog.info? 87).map fun j=>j.size)=some 2:=by kernel_rfl
 obtain⟨j,hj,hs⟩:=Option.map_eq_some_iff.1 h3
 unfold aunsafe
 simp only[h1,h2,h,hj]
 rw[if_pos ⟨by omega,hl⟩]
theorem auns_in{H:Heap}{o:Nat}{cs:List Value}(h:H o=.cells cs 87 true)(hl:cs.length=2):aunsafe Tryz.prog 121 84 H o 0=some { v:=.pointer (some ⟨o,0,none⟩),rd:=[o] }:=by
 have h1:Tryz.prog.underlying 84=some (.pointer 87):=by kernel_rfl
 have h2:Tryz.prog.underlying 121=some .unsafePointer:=by kernel_rfl
 have h3:((Tryz.prog.info? 87).map fun j=>j.size)=some 2:=by kernel_rfl
 obtain⟨j,hj,hs⟩:=Option.map_eq_some_iff.1 h3
 unfold aunsafe
 simp only[h1,h2,h,hj]
 rw[if_pos ⟨trivial,by omega,by simp,by omega⟩]
def tusd:Value→Option Res
 | .slice (some ⟨y,k,none⟩) (_+1) _=>some { v:=.pointer (some ⟨y,k,none⟩) }
 | _=>none
theorem aop_usd{P:Program}{f:Fr}{n:Nat}{H:Heap}{d:Option Nat}{x:Operand}{ts:Array TypeId}{ty:TypeId}{p:String}{af:Array Edge}{gd:Option (Nat × Bool)} :
  aop P (evalA f) n H ⟨d,.call { callee:=.builtin .unsafeSliceData,args:=#[x],argTypes:=ts },ty,p,af,gd⟩=tusd (evalA f x):=by
 unfold aop tusd
 rfl
theorem aop_ust{P:Program}{f:Fr}{n:Nat}{H:Heap}{d:Option Nat}{x y:Operand}{ts:Array TypeId}{ty:TypeId}{p:String}{af:Array Edge}{gd:Option (Nat × Bool)} :
  aop P (evalA f) n H ⟨d,.call { callee:=.builtin .unsafeString,args:=#[x,y],argTypes:=ts },ty,p,af,gd⟩=aunstr P H ts (evalA f x) (evalA f y):=rfl
theorem tusd_some{y k m:Nat}(h:0<m):tusd (.slice (some ⟨y,k,none⟩) m m)=some { v:=.pointer (some ⟨y,k,none⟩) }:=by
 cases m with
 | zero=>omega
 | succ m=>rfl
theorem rs_v(a:Value):({ v:=a }:Res).v=a:=rfl
theorem rs_n(a:Value)(n:Nat):({ v:=a }:Res).next n=n:=rfl
theorem rs_h(a:Value)(n:Nat)(H:Heap):({ v:=a }:Res).heap n H=H:=rfl
theorem aeq_nn:aeqNil Tryz.prog 84 (.pointer none) (.pointer none)=none:=by kernel_rfl
theorem anan_nn:anan Tryz.prog .eql 84 (.pointer none) (.pointer none)=none:=by kernel_rfl
theorem nil_nil{f:Fr}{n:Nat}{H:Heap}{d:Option Nat}{x:Operand}{u ty:TypeId}{p:String}{af:Array Edge}{gd:Option (Nat × Bool)}(hx:evalA f x=.pointer none) :
  aop Tryz.prog (evalA f) n H ⟨d,.binOp .eql 84 x (.const (.pointer none)) u,ty,p,af,gd⟩=some { v:=.bool true }:=by
 have hc:evalA f (.const (.pointer none))=.pointer none:=rfl
 unfold aop
 simp only[hx,hc,aeq_nn,anan_nn]
 have ho:opFlat (evalA f) ⟨d,.binOp .eql 84 x (.const (.pointer none)) u,ty,p,af,gd⟩=true:=by
  simp[opFlat,Op.operands,hx,hc,flat,flat1]
 unfold aflat
 rw[if_pos ho]
 simp only[execOp,resolve,hx,hc]
 rfl
theorem aeq_pp(o:Nat):aeqNil Tryz.prog 84 (.pointer (some ⟨o,0,none⟩)) (.pointer (some ⟨o,0,none⟩))=some true:=by
 have h1:Tryz.prog.underlying 84=some (.pointer 87):=by kernel_rfl
 have h3:((Tryz.prog.info? 87).map fun j=>j.size)=some 2:=by kernel_rfl
 obtain⟨j,hj,hs⟩:=Option.map_eq_some_iff.1 h3
 unfold aeqNil
 simp only[h1,hj]
 rw[if_pos ⟨trivial,by omega⟩]
 rfl
theorem pp_neq{f:Fr}{n o:Nat}{H:Heap}{d:Option Nat}{x y:Operand}{u ty:TypeId}{p:String}{af:Array Edge}{gd:Option (Nat × Bool)}(hx:evalA f x=.pointer (some ⟨o,0,none⟩))(hy:evalA f y=.pointer (some ⟨o,0,none⟩)) :
  aop Tryz.prog (evalA f) n H ⟨d,.binOp .neq 84 x y u,ty,p,af,gd⟩=some { v:=.bool false }:=by
 unfold aop
 simp only[hx,hy,aeq_pp]
 rfl
def B0(H:Heap)(o:Nat):Prop:=H o=.cells [.pointer none,.slice none 0 0] 87 true
structure Bs(H:Heap)(o y:Nat)(l:List UInt8):Prop where
 ho:H o=.cells [.pointer (some ⟨o,0,none⟩),.slice (some ⟨y,0,none⟩) l.length l.length] 87 true
 ne:y≠o
 hy:H y=.cells (l.map bv8) 5 true∨H y=.frz (l.map bI) 5
 pos:0<l.length
 big:l.length≤1000000
theorem check_gives{H:Heap}{o n:Nat}{a b:Value}(h:H o=.cells [a,b] 87 true)(ha:a=.pointer none∨a=.pointer (some ⟨o,0,none⟩)) :
  GivesX Tryz.prog (fun z=>z=o) 57 [.pointer (some ⟨o,0,none⟩)] n H fun _ n' H'=>n'=n∧H' o=.cells [.pointer (some ⟨o,0,none⟩),b] 87 true:=by
 refine GivesX.of orders ok57 (Nat.le_of_ble_eq_true rfl) ?_
 have h1:=auns_out h (by simp)
 have h2:=auns_in h rfl
 rcases ha with rfl|rfl
 ·repeat (first|apply WK.seq|apply WK.block|apply WK.skipSeq|apply WK.skipBlock|apply WK.retSeq|apply WK.retBlock|apply WK.exitSeq|apply WK.exitHere|refine WK.exitOn rfl ?_|((first|(refine WK.rgn ?_ ?_;kernel_rfl)|refine AtCall.now ?_);simp (config:={ maxSteps:=1000000 }) only[SS,qx47,forall_const,vconv,Int.reduceEq,Int.reduceNeg,Nat.reduceGT,Nat.reduceLT,Nat.reduceLeDiff,Nat.reduceEqDiff,↓reduceIte,reduceCtorEq,Int.reduceToNat,Int.reduceLE,Int.reduceLT,Nat.reduceAdd,Nat.reduceMul,h,aop_nc,tnc,ext_noesc,h1,h2,aop_cv,acv,nil_nil,ev_tmp,fset_apply,rs_v,rs_n,rs_h,ff_57])|(refine WK.condT ?_ ?_;focus (simp only[ev_tmp,ev_const,fset_apply,Nat.reduceEqDiff,↓reduceIte,decide_true,decide_false,h,aop_nc,tnc,ext_noesc,h1,h2,aop_cv,acv,nil_nil,ev_tmp,fset_apply,rs_v,rs_n,rs_h,ff_57];done))|(refine WK.condF ?_ ?_;focus (simp only[ev_tmp,ev_const,fset_apply,Nat.reduceEqDiff,↓reduceIte,decide_true,decide_false,h,aop_nc,tnc,ext_noesc,h1,h2,aop_cv,acv,nil_nil,ev_tmp,fset_apply,rs_v,rs_n,rs_h,ff_57];done)))
  refine WK.skipNil ⟨Or.inl rfl,_,rfl,fun z hz hX=>hset_ne _ _ _ hX,?_⟩
  simp only[packed,fset_apply,Nat.reduceEqDiff,↓reduceIte,List.getD_cons_zero,List.getD_cons_succ,ff_57]
  exact⟨trivial,hset_at _ _ _⟩
 ·repeat (first|apply WK.seq|apply WK.block|apply WK.skipSeq|apply WK.skipBlock|apply WK.retSeq|apply WK.retBlock|apply WK.exitSeq|apply WK.exitHere|refine WK.exitOn rfl ?_|((first|(refine WK.rgn ?_ ?_;kernel_rfl)|refine AtCall.now ?_);simp (config:={ maxSteps:=1000000 }) only[SS,qx47,forall_const,vconv,Int.reduceEq,Int.reduceNeg,Nat.reduceGT,Nat.reduceLT,Nat.reduceLeDiff,Nat.reduceEqDiff,↓reduceIte,reduceCtorEq,Int.reduceToNat,Int.reduceLE,Int.reduceLT,Nat.reduceAdd,Nat.reduceMul,h,aop_nc,tnc,rs_v,rs_n,rs_h,ff_57])|(refine WK.condT ?_ ?_;focus (simp only[ev_tmp,ev_const,fset_apply,Nat.reduceEqDiff,↓reduceIte,decide_true,decide_false,h,aop_nc,tnc,rs_v,rs_n,rs_h,ff_57];done))|(refine WK.condF ?_ ?_;focus (simp only[ev_tmp,ev_const,fset_apply,Nat.reduceEqDiff,↓reduceIte,decide_true,decide_false,h,aop_nc,tnc,rs_v,rs_n,rs_h,ff_57];done)))
  try dsimp only[fput,Res.next,Res.heap]
  have hpp:=fun f d u ty p af gd hx hy=>@pp_neq f n o H d (.tmp 17) (.tmp 18) u ty p af gd hx hy
  repeat (first|apply WK.seq|apply WK.block|apply WK.skipSeq|apply WK.skipBlock|apply WK.retSeq|apply WK.retBlock|apply WK.exitSeq|apply WK.exitHere|refine WK.exitOn rfl ?_|((first|(refine WK.rgn ?_ ?_;kernel_rfl)|refine AtCall.now ?_);simp (config:={ maxSteps:=1000000 }) only[SS,qx47,forall_const,vconv,Int.reduceEq,Int.reduceNeg,Nat.reduceGT,Nat.reduceLT,Nat.reduceLeDiff,Nat.reduceEqDiff,↓reduceIte,reduceCtorEq,Int.reduceToNat,Int.reduceLE,Int.reduceLT,Nat.reduceAdd,Nat.reduceMul,h,aop_nc,tnc,hpp,ev_tmp,fset_apply,ff_57])|(refine WK.condT ?_ ?_;focus (simp only[ev_tmp,ev_const,fset_apply,Nat.reduceEqDiff,↓reduceIte,decide_true,decide_false,h,aop_nc,tnc,hpp,ev_tmp,fset_apply,ff_57];done))|(refine WK.condF ?_ ?_;focus (simp only[ev_tmp,ev_const,fset_apply,Nat.reduceEqDiff,↓reduceIte,decide_true,decide_false,h,aop_nc,tnc,hpp,ev_tmp,fset_apply,ff_57];done)))
  try dsimp only[fput,Res.next,Res.heap]
  repeat (first|apply WK.seq|apply WK.block|apply WK.skipSeq|apply WK.skipBlock|apply WK.retSeq|apply WK.retBlock|apply WK.exitSeq|apply WK.exitHere|refine WK.exitOn rfl ?_|((first|(refine WK.rgn ?_ ?_;kernel_rfl)|refine AtCall.now ?_);simp (config:={ maxSteps:=1000000 }) only[SS,qx47,forall_const,vconv,Int.reduceEq,Int.reduceNeg,Nat.reduceGT,Nat.reduceLT,Nat.reduceLeDiff,Nat.reduceEqDiff,↓reduceIte,reduceCtorEq,Int.reduceToNat,Int.reduceLE,Int.reduceLT,Nat.reduceAdd,Nat.reduceMul,h,aop_nc,tnc,ff_57])|(refine WK.condT ?_ ?_;focus (simp only[ev_tmp,ev_const,fset_apply,Nat.reduceEqDiff,↓reduceIte,decide_true,decide_false,h,aop_nc,tnc,ff_57];done))|(refine WK.condF ?_ ?_;focus (simp only[ev_tmp,ev_const,fset_apply,Nat.reduceEqDiff,↓reduceIte,decide_true,decide_false,h,aop_nc,tnc,ff_57];done)))
  refine WK.skipNil ⟨Or.inl rfl,_,rfl,fun z hz hX=>rfl,?_⟩
  simp only[packed,fset_apply,Nat.reduceEqDiff,↓reduceIte,List.getD_cons_zero,List.getD_cons_succ,ff_57]
  exact⟨trivial,h⟩
theorem write_gives {H : Heap} {o y n : Nat} {l s : List UInt8} (hw : WF n H) (hs : 0 < s.length) (hsl : l.length + s.length ≤ 1000000) (ho : (l = [] ∧ B0 H o) ∨ (Bs H o y l ∧ H y = .cells (l.map bv8) 5 true)) :
    GivesX Tryz.prog (fun z => z = o ∨ (l ≠ [] ∧ z = y)) 38 [.pointer (some ⟨o, 0, none⟩), .string (BA s)] n H fun _ _ H' => ∃ y', n ≤ y' ∧ Bs H' o y' (l ++ s) ∧ H' y' = .cells ((l ++ s).map bv8) 5 true := by
  refine GivesX.of orders ok38 (Nat.le_of_ble_eq_true rfl) ?_
  obtain ⟨a, b, hab, ha, hb⟩ : ∃ a b, H o = .cells [a, b] 87 true ∧ (a = .pointer none ∨ a = .pointer (some ⟨o, 0, none⟩)) ∧ (l = [] ∧ b = .slice none 0 0 ∨ l ≠ [] ∧ y ≠ o ∧ b = .slice (some ⟨y, 0, none⟩) l.length l.length ∧ H y = .cells (l.map bv8) 5 true) := by
    rcases ho with ⟨h1, h2⟩ | ⟨h1, h2⟩
    · exact ⟨_, _, h2, .inl rfl, .inl ⟨h1, rfl⟩⟩
    · exact ⟨_, _, h1.ho, .inr rfl, .inr ⟨by intro e; have := h1.pos; rw [e] at this; exact absurd this (by simp), h1.ne, rfl, h2⟩⟩
  have hol : o < n := live_lt0 hw (by rw [hab]; intro e; cases e)
  repeat (first | apply WK.seq | apply WK.block | apply WK.skipSeq | apply WK.skipBlock | apply WK.retSeq | apply WK.retBlock | apply WK.exitSeq | apply WK.exitHere | refine WK.exitOn rfl ?_ | ((first | (refine WK.rgn ?_ ?_; kernel_rfl) | refine AtCall.now ?_); simp (config := { maxSteps := 1000000 }) only [SS, qx46, forall_const, tap, tap2, tap3, tap4, tsrc, tsrc2, Int.reduceEq, Int.reduceNeg, Nat.reduceGT, Nat.reduceLT, Nat.reduceLeDiff, Nat.reduceEqDiff, ↓reduceIte, reduceCtorEq, Int.reduceToNat, Int.reduceLE, Int.reduceLT, Nat.reduceAdd, Nat.reduceMul, ff_38]) | (refine WK.condT ?_ ?_; focus (simp only [ev_tmp, ev_const, fset_apply, Nat.reduceEqDiff, ↓reduceIte, decide_true, decide_false, ff_38]; done)) | (refine WK.condF ?_ ?_; focus (simp only [ev_tmp, ev_const, fset_apply, Nat.reduceEqDiff, ↓reduceIte, decide_true, decide_false, ff_38]; done)))
  refine AtCall.byX (check_gives hab ha) ?_
  rintro v n1 H1 k1 ⟨rfl, h1⟩
  have hsz : (BA s).size = s.length := ba_size s
  have hbig : s.length ≤ bigN := by unfold bigN; omega
  have hbig2 : l.length + s.length ≤ bigN := by unfold bigN; omega
  have hs0 : (s.length = 0) = False := by simp only [eq_iff_iff, iff_false]; omega
  have hdat : ((BA s).data.toList.map fun b => Value.int .u8 (b.toNat : Int)) = s.map bv8 := rfl
  rcases hb with ⟨rfl, rfl⟩ | ⟨hl0, hyo, rfl, hy⟩
  · have hnb : (bigN < s.length) = False := by simp only [eq_iff_iff, iff_false]; omega
    have hq : ∀ (H' : Heap) ob, hset H' n1 ob o = H' o := fun H' ob => hset_ne _ _ _ (by omega)
    simp (config := { maxSteps := 1000000 }) only [SS, qx46, forall_const, tap, tap2, tap3, tap4, tsrc, tsrc2, Int.reduceEq, Int.reduceNeg, Nat.reduceGT, Nat.reduceLT, Nat.reduceLeDiff, Nat.reduceEqDiff, ↓reduceIte, reduceCtorEq, Int.reduceToNat, Int.reduceLE, Int.reduceLT, Nat.reduceAdd, Nat.reduceMul, h1, aop_nc, tnc, hsz, hbig, hs0, hdat, hnb, hq, ff_38]
    repeat (first | apply WK.seq | apply WK.block | apply WK.skipSeq | apply WK.skipBlock | apply WK.retSeq | apply WK.retBlock | apply WK.exitSeq | apply WK.exitHere | refine WK.exitOn rfl ?_ | ((first | (refine WK.rgn ?_ ?_; kernel_rfl) | refine AtCall.now ?_); simp (config := { maxSteps := 1000000 }) only [SS, qx46, forall_const, tap, tap2, tap3, tap4, tsrc, tsrc2, Int.reduceEq, Int.reduceNeg, Nat.reduceGT, Nat.reduceLT, Nat.reduceLeDiff, Nat.reduceEqDiff, ↓reduceIte, reduceCtorEq, Int.reduceToNat, Int.reduceLE, Int.reduceLT, Nat.reduceAdd, Nat.reduceMul, h1, aop_nc, tnc, hsz, hbig, hs0, hdat, hnb, hq, ff_38]) | (refine WK.condT ?_ ?_; focus (simp only [ev_tmp, ev_const, fset_apply, Nat.reduceEqDiff, ↓reduceIte, decide_true, decide_false, h1, aop_nc, tnc, hsz, hbig, hs0, hdat, hnb, hq, ff_38]; done)) | (refine WK.condF ?_ ?_; focus (simp only [ev_tmp, ev_const, fset_apply, Nat.reduceEqDiff, ↓reduceIte, decide_true, decide_false, h1, aop_nc, tnc, hsz, hbig, hs0, hdat, hnb, hq, ff_38]; done)))
    refine WK.retNil ⟨Or.inr rfl, _, rfl, fun z hz hX => ?_, ?_⟩
    · have h2 : z ≠ o := fun e => hX e
      show hset (hset H1 n1 _) o _ z = H z
      rw [hset_ne _ _ _ h2, hset_ne _ _ _ (by omega), k1.keep z hz h2]
    · refine ⟨n1, Nat.le_refl _, ⟨?_, by omega, .inl ?_, by simpa using hs, by simpa using hsl⟩, ?_⟩
      · simp only [packed, fset_apply, Nat.reduceEqDiff, ↓reduceIte, List.getD_cons_zero, List.getD_cons_succ, ff_38]
        exact hset_at _ _ _
      · show hset (hset H1 n1 _) o _ n1 = _
        rw [hset_ne _ _ _ (by omega), hset_at]
      · show hset (hset H1 n1 _) o _ n1 = _
        rw [hset_ne _ _ _ (by omega), hset_at]
  · have hy1 : H1 y = .cells (l.map bv8) 5 true := by
      rw [k1.keep y (live_lt0 hw (by rw [hy]; intro e; cases e)) hyo, hy]
    have hyl : y < n1 := live_lt0 hw (by rw [hy]; intro e; cases e)
    have hq : ∀ (H' : Heap) ob, hset H' n1 ob o = H' o := fun H' ob => hset_ne _ _ _ (by omega)
    have hq2 : ∀ (H' : Heap) ob, hset H' y ob o = H' o := fun H' ob => hset_ne _ _ _ (Ne.symm hyo)
    have hml : (l.map bv8).length = l.length := List.length_map _
    have htk : (l.map bv8).take l.length = l.map bv8 := List.take_of_length_le (by simp)
    simp (config := { maxSteps := 1000000 }) only [SS, qx46, forall_const, tap, tap2, tap3, tap4, tsrc, tsrc2, Int.reduceEq, Int.reduceNeg, Nat.reduceGT, Nat.reduceLT, Nat.reduceLeDiff, Nat.reduceEqDiff, ↓reduceIte, reduceCtorEq, Int.reduceToNat, Int.reduceLE, Int.reduceLT, Nat.reduceAdd, Nat.reduceMul, h1, aop_nc, tnc, hsz, hbig, hs0, hdat, hy1, hbig2, hq, hq2, hml, List.contains_nil, Nat.le_refl, ff_38]
    repeat (first | apply WK.seq | apply WK.block | apply WK.skipSeq | apply WK.skipBlock | apply WK.retSeq | apply WK.retBlock | apply WK.exitSeq | apply WK.exitHere | refine WK.exitOn rfl ?_ | ((first | (refine WK.rgn ?_ ?_; kernel_rfl) | refine AtCall.now ?_); simp (config := { maxSteps := 1000000 }) only [SS, qx46, forall_const, tap, tap2, tap3, tap4, tsrc, tsrc2, Int.reduceEq, Int.reduceNeg, Nat.reduceGT, Nat.reduceLT, Nat.reduceLeDiff, Nat.reduceEqDiff, ↓reduceIte, reduceCtorEq, Int.reduceToNat, Int.reduceLE, Int.reduceLT, Nat.reduceAdd, Nat.reduceMul, h1, aop_nc, tnc, hsz, hbig, hs0, hdat, hy1, hbig2, hq, hq2, hml, List.contains_nil, Nat.le_refl, ff_38]) | (refine WK.condT ?_ ?_; focus (simp only [ev_tmp, ev_const, fset_apply, Nat.reduceEqDiff, ↓reduceIte, decide_true, decide_false, h1, aop_nc, tnc, hsz, hbig, hs0, hdat, hy1, hbig2, hq, hq2, hml, List.contains_nil, Nat.le_refl, ff_38]; done)) | (refine WK.condF ?_ ?_; focus (simp only [ev_tmp, ev_const, fset_apply, Nat.reduceEqDiff, ↓reduceIte, decide_true, decide_false, h1, aop_nc, tnc, hsz, hbig, hs0, hdat, hy1, hbig2, hq, hq2, hml, List.contains_nil, Nat.le_refl, ff_38]; done)))
    refine WK.retNil ⟨Or.inr rfl, _, rfl, fun z hz hX => ?_, ?_⟩
    · have h2 : z ≠ o := fun e => hX (.inl e)
      have h3 : z ≠ y := fun e => hX (.inr ⟨hl0, e⟩)
      show hset (hset (hset H1 y _) n1 _) o _ z = H z
      rw [hset_ne _ _ _ h2, hset_ne _ _ _ (by omega), hset_ne _ _ _ h3, k1.keep z hz h2]
    · have hap : (l.map bv8 ++ s.map bv8) = (l ++ s).map bv8 := by simp
      refine ⟨n1, Nat.le_refl _, ⟨?_, by omega, .inl ?_, by simp; omega, by simpa using hsl⟩, ?_⟩
      · simp only [packed, fset_apply, Nat.reduceEqDiff, ↓reduceIte, List.getD_cons_zero, List.getD_cons_succ, List.length_append, ff_38]
        exact hset_at _ _ _
      · show hset (hset (hset H1 y _) n1 _) o _ n1 = _
        rw [hset_ne _ _ _ (by omega), hset_at, ← hap, List.drop_zero, htk]
      · show hset (hset (hset H1 y _) n1 _) o _ n1 = _
        rw [hset_ne _ _ _ (by omega), hset_at, ← hap, List.drop_zero, htk]
theorem string_gives{H:Heap}{o y n:Nat}{l:List UInt8}(hw:WF n H)(hb:Bs H o y l) :
  GivesX Tryz.prog (fun z=>z=y) 40 [.pointer (some ⟨o,0,none⟩)] n H fun v n' H'=>v=.string (BA l)∧n'=n∧Bs H' o y l:=by
 refine GivesX.of orders ok40 (Nat.le_of_ble_eq_true rfl) ?_
 have ho:=hb.ho
 have hus:=tusd_some (y:=y) (k:=0) hb.pos
 have hau:aunstr Tryz.prog H #[108,3] (.pointer (some ⟨y,0,none⟩)) (.int .i64 (l.length:Int))=some { v:=.string (BA l),wr:=some (y,.frz (l.map bI) 5),rd:=[y] }:=by
  have h0:((Tryz.prog.underlying 108)=some (.pointer 5)):=by kernel_rfl
  have h3:((Tryz.prog.info? 5).map fun j=>j.size)=some 1:=by kernel_rfl
  obtain⟨j,hj,hs⟩:=Option.map_eq_some_iff.1 h3
  have hlb:(l.length:Int)≤bigN:=by have:=hb.big;unfold bigN;omega
  have hp:(0:Int)<(l.length:Int):=by have:=hb.pos;omega
  have hbt:bytesOf (l.map bv8)=some (l.map bI):=bytes_list l
  have htk:((l.map bI).drop 0).take (l.length:Int).toNat=l.map bI:=by rw[List.drop_zero,List.take_of_length_le (by simp)]
  unfold aunstr
  simp only[List.getElem?_toArray,List.getElem?_cons_zero,Option.bind_some,h0]
  rcases hb.hy with h|h
  ·simp only[h,hj]
   rw[if_pos ⟨trivial,hs,hp,hlb,by simp⟩,hbt]
   simp only[Option.map_some,htk,nums_list]
  ·simp only[h,hj]
   rw[if_pos ⟨trivial,hs,hp,hlb,by simp⟩]
   simp only[htk,nums_list]
 repeat (first|apply WK.seq|apply WK.block|apply WK.skipSeq|apply WK.skipBlock|apply WK.retSeq|apply WK.retBlock|apply WK.exitSeq|apply WK.exitHere|refine WK.exitOn rfl ?_|((first|(refine WK.rgn ?_ ?_;kernel_rfl)|refine AtCall.now ?_);simp (config:={ maxSteps:=1000000 }) only[SS,forall_const,wx,tguard,acallee,top,tval,fput,tload,tload2,tload3,tfa,tfa2,tlen2,tlen3,Int.reduceEq,Int.reduceNeg,Nat.reduceGT,Nat.reduceLT,Nat.reduceLeDiff,Nat.reduceEqDiff,↓reduceIte,reduceCtorEq,Int.reduceToNat,Int.reduceLE,Int.reduceLT,Nat.reduceAdd,Nat.reduceMul,ho,aop_nc,tnc,aop_usd,hus,aop_ust,hau,ff_40])|(refine WK.condT ?_ ?_;focus (simp only[ev_tmp,ev_const,fset_apply,Nat.reduceEqDiff,↓reduceIte,decide_true,decide_false,ho,aop_nc,tnc,aop_usd,hus,aop_ust,hau,ff_40];done))|(refine WK.condF ?_ ?_;focus (simp only[ev_tmp,ev_const,fset_apply,Nat.reduceEqDiff,↓reduceIte,decide_true,decide_false,ho,aop_nc,tnc,aop_usd,hus,aop_ust,hau,ff_40];done)))
 refine WK.retNil ⟨Or.inr rfl,_,rfl,fun z hz hX=>hset_ne _ _ _ hX,?_⟩
 simp only[packed,fset_apply,Nat.reduceEqDiff,↓reduceIte,List.getD_cons_zero,List.getD_cons_succ,ff_40]
 exact⟨trivial,trivial,by rw[hset_ne _ _ _ (Ne.symm hb.ne)];exact ho,hb.ne,.inr (hset_at _ _ _),hb.pos,hb.big⟩
end Go.Proofs.YtjlgpanihjnaeaaGreatDoor
