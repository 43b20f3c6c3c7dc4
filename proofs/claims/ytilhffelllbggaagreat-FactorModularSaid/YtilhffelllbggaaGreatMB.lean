/-
  The shadow machine against the model: operations, regions.
-/
import Derived.Test.YtilhffelllbggaaGreatMA
set_option linter.unusedVariables false
set_option linter.unusedSimpArgs false
namespace Go.Sh
def flatC(zs:List Value):List Value:=zs.flatMap fun z=>z.cells.toList
theorem flatC_len{sz:Nat}:∀(zs:List Value),(∀z∈zs,z.cells.size=sz)→(flatC zs).length=zs.length*sz
 |[],_=>by simp[flatC]
 |z::r,h=>by
  have:=flatC_len r fun y hy=>h y (List.mem_cons_of_mem _ hy)
  have hz:=h z (by simp)
  simp only[flatC,List.flatMap_cons,List.length_append,Array.length_toList,List.length_cons,Nat.add_mul,Nat.one_mul]at *
  omega
theorem flatC_get{sz:Nat}:∀(zs:List Value) (i j:Nat) (z:Value),(∀z∈zs,z.cells.size=sz)→zs[i]?=some z→j<sz→(flatC zs)[i*sz+j]?=z.cells[j]?
 |[],i,j,z,_,h,_=>by simp at h
 |y::r,0,j,z,hz,h,hj=>by
  simp at h;subst h
  have h0:=hz y (by simp)
  simp only[flatC,List.flatMap_cons,Nat.zero_mul,Nat.zero_add]
  rw[List.getElem?_append_left (by simp;omega)]
  simp
 |y::r,i+1,j,z,hz,h,hj=>by
  have h0:=hz y (by simp)
  have ih:=flatC_get r i j z (fun y hy=>hz y (List.mem_cons_of_mem _ hy)) (by simpa using h) hj
  simp only[flatC,List.flatMap_cons]at ih ⊢
  rw[List.getElem?_append_right (by simp[Nat.add_mul];omega)]
  rw[show(i+1)*sz+j-y.cells.toList.length=i*sz+j by simp[Nat.add_mul];omega]
  exact ih
def MemEl(ι:IM)(F:Fset)(w:World)(xs:List SV)(b o sz:Nat):Prop:=∀(i:Nat) (e:SV),xs[i]?=some e→At ι F w e b (o+i*sz) sz
theorem MemEl.vals{ι:IM}{F:Fset}{w:World}{b sz:Nat}:∀{xs:List SV} {o:Nat},MemEl ι F w xs b o sz→∃zs,VRs ι F w xs zs∧(∀z∈zs,z.cells.size=sz)∧∀k,k<xs.length*sz→w.cell? ⟨b,o+k,none⟩=(flatC zs)[k]?
 |[],o,h=>⟨[],rfl,by simp,by simp⟩
 |x::r,o,h=>by
  obtain⟨z,h1,h2,h3⟩:=h 0 x (by simp)
  obtain⟨zs,k1,k2,k3⟩:=MemEl.vals (xs:=r) (o:=o+sz) (fun i e he=>by
   have:=h (i+1) e (by simpa using he)
   rwa [show o+(i+1)*sz=o+sz+i*sz by rw[Nat.add_mul];omega]at this)
  refine⟨z::zs,⟨z,zs,rfl,h1,k1⟩,?_,fun k hk=>?_⟩
  ·intro y hy
   rcases List.mem_cons.1 hy with rfl|hy
   ·exact h2
   ·exact k2 y hy
  ·simp only[flatC,List.flatMap_cons]
   by_cases hks:k<sz
   ·rw[List.getElem?_append_left (by simp;omega)]
    have:=h3 k hks
    simp at this ⊢
    exact this
   ·rw[List.getElem?_append_right (by simp;omega)]
    have:=k3 (k-sz) (by simp[Nat.add_mul]at hk;omega)
    rw[show o+sz+(k-sz)=o+k by omega]at this
    rw[this]
    simp[flatC,h2]
theorem run_loadFlat{P:Program}{w:World}{b o n sz:Nat}{zs:List Value}(hz:∀z∈zs,z.cells.size=sz)(hc:∀k,k<zs.length*sz→w.cell? ⟨b,o+k,none⟩=(flatC zs)[k]?)(hn:n=zs.length) :
  (loadCells ⟨b,o,none⟩ (n*sz)).run P w=.ok (flatC zs).toArray w:=by
 subst hn
 have:=run_loadCells_list (P:=P) w ⟨b,o,none⟩ (flatC zs) (fun j v hv=>by
  have hj:j<(flatC zs).length:=(List.getElem?_eq_some_iff.1 hv).1
  rw[flatC_len zs hz]at hj
  rw[add_at,hc j hj,hv])
 rwa [flatC_len zs hz]at this
theorem elems_ok{P:Program}{ι:IM}{F:Fset}{S0 S:Zt}{w:World}(hR:Rel ι F S w)(hsub:Sub S0 S){x:SV}{xs:List SV}{a:Value}{sz:Nat}(hx:VR ι F w x a)(h:elemsS S0 x=some xs)(hs:∀e∈xs,e.n=sz)(hsz:0<sz) :
  ∃A cap zs,a=.slice A xs.length cap∧VRs ι F w xs zs∧(∀z∈zs,z.cells.size=sz)∧∀n,n≤xs.length→(Builtin.firstCells sz n a).run P w=.ok (flatC (zs.take n)).toArray w:=by
 have fin:∀(b o len cap:Nat),len=xs.length→(xs=[]∨MemEl ι F w xs b o sz)→∃zs,VRs ι F w xs zs∧(∀z∈zs,z.cells.size=sz)∧∀n,n≤xs.length→(Builtin.firstCells sz n (.slice (some ⟨b,o,none⟩) len cap)).run P w=.ok (flatC (zs.take n)).toArray w:=by
  intro b o len cap hlen hm
  rcases hm with rfl|hm
  ·refine⟨[],rfl,by simp,fun n hn=>?_⟩
   simp at hn;subst hn
   simp[Builtin.firstCells,loadCells,loadCellsFrom,flatC]
  ·obtain⟨zs,h1,h2,h3⟩:=hm.vals
   refine⟨zs,h1,h2,fun n hn=>?_⟩
   have hl:=h1.length
   have h2':∀z∈zs.take n,z.cells.size=sz:=fun z hz=>h2 z (List.mem_of_mem_take hz)
   refine run_loadFlat h2' (fun k hk=>?_) (by simp;omega)
   have hk':k<n*sz:=by simpa[Nat.min_eq_left (show n≤zs.length by omega)]using hk
   have h5:n*sz≤xs.length*sz:=Nat.mul_le_mul_right _ hn
   rw[h3 k (by omega)]
   have:flatC zs=flatC (zs.take n)++flatC (zs.drop n):=by rw[flatC,flatC,flatC,←List.flatMap_append,List.take_append_drop]
   rw[this,List.getElem?_append_left (by rw[flatC_len _ h2'];exact hk)]
 cases x with
 |vsl es c=>
  simp only[elemsS]at h;cases h
  obtain⟨A,cap,rfl,hle,hnil,hnn,-⟩:=hx
  by_cases hc:c=.nil
  ·obtain⟨rfl,rfl,rfl⟩:=hnil hc
   refine⟨none,0,[],rfl,rfl,by simp,fun n hn=>?_⟩
   simp[Builtin.firstCells,flatC]
  ·obtain⟨b,o,s,rfl,h0,hve⟩:=hnn hc
   obtain⟨zs,h1,h2,h3⟩:=fin b o xs.length cap rfl (by
    cases hes:xs with
    |nil=>exact .inl rfl
    |cons e r=>
     right
     subst hes
     have hss:s=sz:=by
      obtain⟨y,hy,hys,_⟩:=VE_get hve (n:=0) (e:=e) (by simp)
      rw[←hys,←hy.n];exact hs e (by simp)
     subst hss
     intro i e' he'
     obtain⟨y,hy,hys,hyc⟩:=VE_get hve he'
     exact⟨y,hy.pure,hys,fun j hj=>(hyc j hj).2⟩)
   exact⟨_,_,zs,rfl,h1,h2,h3⟩
 |osl id s off len cp=>
  simp only[elemsS]at h
  split at h
  ·rename_i es lv hr
   split at h
   ·rename_i hl
    cases h
    obtain⟨ix,c,b,o,hix,hss,rfl,hle,-,haddr⟩:=hx
    obtain⟨lv',hr',-⟩:=hsub.cells hr
    have hrow:=hR.row _ _ _ _ hix hr'
    have hxl:((es.drop off).take len).length=len:=by simp;omega
    obtain⟨zs,h1,h2,h3⟩:=fin b o len c hxl.symm (by
     by_cases h0:len=0
     ·left;apply List.eq_nil_of_length_eq_zero;omega
     ·right
      obtain⟨rfl,rfl,-⟩:=haddr (by omega)
      intro i e he
      have hi:i<len:=by
       rcases Nat.lt_or_ge i ((es.drop off).take len).length with h'|h'
       ·omega
       ·rw[List.getElem?_eq_none h']at he;cases he
      rw[List.getElem?_take,if_pos hi,List.getElem?_drop]at he
      have hat:=hrow.at_ _ _ he
      have hsz':ix.sz=sz:=by
       obtain⟨y,hy,hys,_⟩:=hat
       rw[←hys,←hy.n]
       exact hs e (by
        refine List.mem_of_getElem? (i:=i) ?_
        rw[List.getElem?_take,if_pos hi,List.getElem?_drop];exact he)
      rw[hsz',Nat.add_mul]at hat
      rw[←hss,hsz']
      rwa [Nat.add_assoc])
    exact⟨_,_,zs,by rw[hxl],h1,h2,h3⟩
   ·cases h
  ·cases h
 |_=>simp only[elemsS]at h;cases h
theorem Rel.sameHeap{ι:IM}{F:Fset}{S:Zt}{w w':World}(h:Rel ι F S w)(hw:w'.heap=w.heap):Rel ι F S w'∧Up ι F w ι F w':=by
 have hc:∀b o,w'.cell? ⟨b,o,none⟩=w.cell? ⟨b,o,none⟩:=fun b o=>cell_of_heap (by rw[hw])
 have u:Up ι F w ι F w':=⟨fun _ _ h=>h,fun _ _ h=>h,fun b o _=>hc b o⟩
 refine⟨⟨h.dom,fun id ix es lv hi hr=>?_,fun id ix env ps as bd st pe hi hr=>?_,h.inj,fun b o hf=>?_⟩,u⟩
 ·have hr0:=h.row _ _ _ _ hi hr
  exact⟨hr0.pos,fun i e he=>(hr0.at_ i e he).up u (fun j _=>hc _ _),by rw[hw];exact hr0.blk,hr0.free,hr0.kept,by rw[hw];exact hr0.cap⟩
 ·obtain⟨L,D,h1,h2,h3⟩:=h.loop _ _ _ _ _ _ _ _ hi hr
  refine⟨L,D,by rw[hw];exact h1,h2.up u,?_⟩
  rw[hw];exact h3
 ·obtain⟨v,hv⟩:=h.fok _ _ hf
  exact⟨v,(hc b o).trans hv⟩
structure QExt(ι:IM)(F:Fset)(w:World)(ι':IM)(F':Fset)(w':World)(lo hi:Nat):Prop where
 up:Up ι F w ι' F' w'
 size:w.heap.size≤w'.heap.size
 fnew:∀b o,F' b o→F b o∨w.heap.size≤b
 inew:∀id ix,ι' id=some ix→ι id=some ix∨(lo≤id∧id<hi∧w.heap.size≤ix.b)
 frame:∀b,b<w.heap.size→w'.heap[b]?=w.heap[b]?
 os:w'.os=w.os
 output:w'.output=w.output
 tape:w'.tape=w.tape
theorem QExt.refl(ι:IM)(F:Fset)(w:World)(lo hi:Nat):QExt ι F w ι F w lo hi:=⟨.refl _ _ _,Nat.le_refl _,fun _ _ h=>.inl h,fun _ _ h=>.inl h,fun _ _=>rfl,rfl,rfl,rfl⟩
theorem Ext.quiet{ι ι':IM}{F F0 F':Fset}{S S':Zt}{w w':World}{hi:Nat}(h:Ext ι F S w ι F0 S' w)(q:QExt ι F0 w ι' F' w' S.length hi):Ext ι F S w ι' F' S' w' where
 up:=h.up.trans q.up
 size:=q.size
 len:=h.len
 evol:=h.evol
 fnew b o hf:=(q.fnew b o hf).elim (fun h1=>h.fnew b o h1) (fun h1=>.inr (.inl h1))
 inew id ix hid:=(q.inew id ix hid).elim .inl (fun h1=>.inr ⟨h1.1,.inl h1.2.2⟩)
 frame b hb _:=q.frame b hb
 os:=q.os
 output:=q.output
 tape:=q.tape
theorem newF_new{F:Fset}{b n:Nat}{lv:Bool}{b' o:Nat}(h:newF F b n lv b' o):F b' o∨b≤b':=by
 rcases h with h|⟨_,rfl,_⟩
 ·exact .inl h
 ·exact .inr (Nat.le_refl _)
theorem Rel.allocQ{ι:IM}{F:Fset}{S:Zt}{w:World}(h:Rel ι F S w){id:Nat}{es:List SV}{lv:Bool}{c:Array Value}{t:TypeId}{sz cp:Nat}(hid:ι id=none)(hS:S[id]?=some (.cells es lv))(hsz:0<sz)(hc:es.length*sz≤c.size)(hcp:cp*sz≤c.size)
  (hes:∀(i:Nat) (e:SV),es[i]?=some e→∃x,VR ι F w e x∧x.cells.size=sz∧∀j,j<sz→c[i*sz+j]?=x.cells[j]?) :
  ∃ι' F',Rel ι' F' S (w.alloc (.cells c t))∧QExt ι F w ι' F' (w.alloc (.cells c t)) id (id+1)∧ι' id=some ⟨w.heap.size,0,sz,cp⟩:=by
 obtain⟨h1,h2⟩:=h.alloc (t:=t) hid hS hsz hc hcp hes
 refine⟨_,_,h1,⟨h2,by simp,fun b o hf=>newF_new hf,?_,?_,rfl,rfl,rfl⟩,by simp[IM.put]⟩
 ·intro k ix hk
  unfold IM.put at hk
  split at hk
  ·rename_i e;cases hk;exact .inr ⟨by omega,by omega,Nat.le_refl _⟩
  ·exact .inl hk
 ·intro b hb
  show(w.heap.push _)[b]?=_
  rw[Array.getElem?_push,if_neg (by omega)]
theorem zero_range{sz n:Nat}(z:Array Value)(hz:z.size=sz)(hsz:0<sz)(i j:Nat)(hi:i<n)(hj:j<sz):((Array.range (n*sz)).map (fun k=>z[k%z.size]!))[i*sz+j]?=z[j]?:=by
 have hlt:i*sz+j<n*sz:=by
  have:(i+1)*sz≤n*sz:=Nat.mul_le_mul_right _ hi
  rw[Nat.add_mul,Nat.one_mul]at this
  omega
 rw[Array.getElem?_map,Array.getElem?_range,if_pos hlt]
 simp only[Option.map_some]
 have:(i*sz+j)%z.size=j:=by rw[hz,Nat.add_comm,Nat.add_mul_mod_self_right,Nat.mod_eq_of_lt hj]
 rw[this,getElem!_pos z j (by omega),Array.getElem?_eq_getElem (by omega)]
def Cells(ι:IM)(F:Fset)(w:World)(es:List SV)(c:Array Value)(sz:Nat):Prop:=
 c.size=es.length*sz∧∀(i:Nat) (e:SV),es[i]?=some e→∃x,VR ι F w e x∧x.cells.size=sz∧∀j,j<sz→c[i*sz+j]?=x.cells[j]?
theorem Cells.zero{P:Program}{t:TypeId}{i:TyI}(ht:TyOk P t i)(hn:i.zero.n=i.size)(h0:i.size≠0)(ι:IM)(F:Fset)(w:World)(n:Nat) :
  ∃z:Value,(zeroValue t).run P w=.ok z w∧z.cells.size=i.size∧Cells ι F w (List.replicate n i.zero) ((Array.range (n*i.size)).map (fun k=>z.cells[k%z.cells.size]!)) i.size:=by
 obtain⟨d,hd,hs,hb,z,hz,hzv⟩:=ht.info
 have hzs:z.cells.size=i.size:=by rw[←(hzv ι F w).n,hn]
 refine⟨z,by simp[zeroValue,typeInfo,hd,hz],hzs,by simp,fun k e he=>?_⟩
 rw[List.getElem?_replicate]at he
 split at he
 ·rename_i hk
  cases he
  exact⟨z,hzv ι F w,hzs,fun j hj=>zero_range z.cells hzs (by omega) k j hk hj⟩
 ·cases he
theorem wrap_small(n:Int)(h0:0≤n)(h1:n≤70368744177664):IntKind.i64.wrap n=n:=by
 rw[←wrapS_eq]
 simp only[wrS]
 rw[if_pos ⟨by omega,by omega⟩]
theorem run_askRoom(P:Program)(n:Nat)(w:World):(askRoom n).run P w=.ok () w:=by
 unfold askRoom;split<;>rfl
theorem run_newRowS(P:Program)(t:TypeId)(c:Array Value)(w:World):(newRow t c).run P w=.ok ⟨w.heap.size,0,none⟩ (w.alloc (.cells c t)):=rfl
theorem range0{α:Type}(f:Nat→α):(Array.range 0).map f=#[]:=by simp
theorem run_makeSlice{P:Program}{cfg:Cfg}(hT:TyAll P cfg){t e:TypeId}{j:TyI}(hu:P.underlying t=some (.slice e))(hj:cfg.ty e=some j){l c:Nat}{kl kc:IntKind}(h0:j.size≠0)(hl:l≤c)(hc:c≤roomS)(hb:c*j.bytes≤roomS)(hz:j.zero.n=j.size)(ι:IM)(F:Fset)(w:World) :
  ∃cs:Array Value,(Instr.makeSlice t (.int kl (l:Int)) (.int kc (c:Int))).run P w=.ok (.slice (some ⟨w.heap.size,0,none⟩) l c) (w.alloc (.cells cs e))∧Cells ι F w (List.replicate c j.zero) cs j.size:=by
 have hk:=hT.ty _ _ hj
 obtain⟨z,hz1,hz2,hz3⟩:=Cells.zero hk hz h0 ι F w c
 obtain⟨d,hd,hs,hby,_⟩:=hk.info
 unfold roomS at hc hb
 have wl:IntKind.i64.wrap (l:Int)=l:=wrap_small _ (by omega) (by omega)
 have wc:IntKind.i64.wrap (c:Int)=c:=wrap_small _ (by omega) (by omega)
 refine⟨_,?_,hz3⟩
 unfold Instr.makeSlice
 simp only[Sem.run_bind,run_underlying hu,Result.andThen_ok,asInt,asIntOf,Sem.run_pure,typeInfo,run_program,hd,wl,wc,hby]
 have hbi:((j.bytes:Int)*(c:Int))≤70368744177664:=by
  rw[Int.mul_comm,←Int.natCast_mul];omega
 rw[if_neg (by simp only[Bool.or_eq_true,decide_eq_true_eq,not_or,Int.reducePow];omega)]
 simp only[Int.toNat_natCast,run_askRoom,hk.size,Sem.run_bind,Result.andThen_ok]
 by_cases hc0:c*j.size=0
 ·have:c=0:=by
   rcases Nat.mul_eq_zero.1 hc0 with h|h
   ·exact h
   ·exact absurd h h0
  subst this
  rw[if_pos (by simp)]
  simp only[Sem.run_bind,Sem.run_pure,Result.andThen_ok,run_newRowS,Nat.zero_mul,range0]
 ·rw[if_neg hc0]
  simp only[Sem.run_bind,Sem.run_pure,Result.andThen_ok,run_newRowS,hz1]
theorem litS_ok {ι : IM} {F : Fset} {w : World} {sz : Nat} : ∀ {ps : List (Nat × SV)} {qs : List (Nat × Value)} {es es' : List SV} {a : Array Value},
    ps.map (·.1) = qs.map (·.1) → VRs ι F w (ps.map (·.2)) (qs.map (·.2)) → Cells ι F w es a sz → litS sz es ps = some es' → ∃ a', Instr.fill (fun i => some (i * sz, sz)) a qs = some a' ∧ Cells ι F w es' a' sz
  | [], qs, es, es', a, h1, h2, h3, h => by
    cases qs with
    | nil => simp only [litS] at h; cases h; exact ⟨a, rfl, h3⟩
    | cons q r => simp at h1
  | (i, v) :: ps, qs, es, es', a, h1, h2, h3, h => by
    cases qs with
    | nil => simp at h1
    | cons q qs =>
      obtain ⟨j, x⟩ := q
      simp only [List.map_cons, List.cons.injEq] at h1
      obtain ⟨rfl, h1⟩ := h1
      simp only [List.map_cons] at h2
      obtain ⟨y, ys, he, hy, hys⟩ := h2
      cases he
      simp only [litS] at h
      split at h
      · rename_i hc
        obtain ⟨hi, hn⟩ := hc
        have hsz : x.cells.size = sz := by rw [← hy.n, hn]
        have hi5 : (i + 1) * sz ≤ es.length * sz := Nat.mul_le_mul_right _ hi
        rw [Nat.add_mul, Nat.one_mul] at hi5
        obtain ⟨hasz, hget⟩ := h3
        unfold Instr.fill
        simp only []
        rw [if_neg (by simp [hsz]; omega)]
        refine litS_ok h1 hys ?_ h
        have hf := fold_set x.cells.toList (i * sz) 0 a (by simp; omega)
        have : (x.cells.zipIdx.foldl (fun cs (x : Value × Nat) => cs.setIfInBounds (i * sz + x.2) x.1) a) = ((x.cells.toList.zipIdx 0).foldl (fun cs (x : Value × Nat) => cs.setIfInBounds (i * sz + x.2) x.1) a) := by
          rw [← Array.foldl_toList, Array.toList_zipIdx]
        rw [this]
        generalize hg : (x.cells.toList.zipIdx 0).foldl (fun cs (x : Value × Nat) => cs.setIfInBounds (i * sz + x.2) x.1) a = a'
        rw [hg] at hf
        simp only [Nat.add_zero, Array.length_toList] at hf
        have hl : a'.size = a.size := by
          have := congrArg List.length hf
          simp at this; omega
        refine ⟨by rw [hl, hasz]; simp, fun k e he => ?_⟩
        have hk : ∀ m, a'[m]? = (a.toList.take (i * sz) ++ x.cells.toList ++ a.toList.drop (i * sz + x.cells.size))[m]? := fun m => by rw [← hf, Array.getElem?_toList]
        rw [List.getElem?_set] at he
        by_cases hik : i = k
        · subst hik
          rw [if_pos rfl, if_pos hi] at he
          cases he
          refine ⟨x, hy, hsz, fun l hl => ?_⟩
          rw [hk, List.append_assoc, List.getElem?_append_right (by simp; omega), List.getElem?_append_left (by simp; omega)]
          simp only [List.length_take, Array.length_toList]
          rw [Nat.min_eq_left (by omega), show i * sz + l - i * sz = l by omega]
          simp
        · rw [if_neg hik] at he
          obtain ⟨z, k1, k2, k3⟩ := hget _ _ he
          refine ⟨z, k1, k2, fun l hl => ?_⟩
          rw [hk, ← k3 l hl]
          rcases Nat.lt_or_gt_of_ne hik with h5 | h5
          · have : (i + 1) * sz ≤ k * sz := Nat.mul_le_mul_right _ h5
            rw [Nat.add_mul, Nat.one_mul] at this
            rw [List.getElem?_append_right (by simp; omega), List.getElem?_drop]
            simp only [List.length_append, List.length_take, Array.length_toList]
            rw [Nat.min_eq_left (by omega), show i * sz + x.cells.size + (k * sz + l - (i * sz + x.cells.size)) = k * sz + l by omega]
            simp
          · have : (k + 1) * sz ≤ i * sz := Nat.mul_le_mul_right _ h5
            rw [Nat.add_mul, Nat.one_mul] at this
            rw [List.append_assoc, List.getElem?_append_left (by simp; omega), List.getElem?_take, if_pos (by omega)]
            simp
      · cases h
theorem run_buildSlice{P:Program}{cfg:Cfg}(hT:TyAll P cfg){t e:TypeId}{j:TyI}(hu:P.underlying t=some (.slice e))(hj:cfg.ty e=some j){len:Nat}(h0:j.size≠0)(hl:len*j.size≤16777216)(hz:j.zero.n=j.size){ι:IM}{F:Fset}{w:World}
  {vs:List (Nat×SV)} {qs:Array (Nat×Value)} {es:List SV} (h1:vs.map (·.1)=qs.toList.map (·.1)) (h2:VRs ι F w (vs.map (·.2)) (qs.toList.map (·.2))) (h:litS j.size (List.replicate len j.zero) vs=some es) :
  ∃cs:Array Value,(Instr.buildSlice t len qs).run P w=.ok (.slice (some ⟨w.heap.size,0,none⟩) len len) (w.alloc (.cells cs e))∧Cells ι F w es cs j.size:=by
 have hk:=hT.ty _ _ hj
 obtain⟨z,hz1,hz2,hz3⟩:=Cells.zero hk hz h0 ι F w len
 obtain⟨a',hf,hc⟩:=litS_ok h1 h2 hz3 h
 refine⟨a',?_,hc⟩
 unfold Instr.buildSlice
 simp only[Sem.run_bind,run_underlying hu,Result.andThen_ok,hk.size]
 rw[if_neg (show ¬(len*j.size>2^24)by simp only[Nat.reducePow];omega)]
 by_cases hc0:len*j.size=0
 ·have:len=0:=by
   rcases Nat.mul_eq_zero.1 hc0 with h|h
   ·exact h
   ·exact absurd h h0
  subst this
  rw[if_pos (by simp)]
  simp only[Nat.zero_mul,range0]at hf ⊢
  simp only[Sem.run_bind,Sem.run_pure,Result.andThen_ok]
  rw[hf]
  simp only[Sem.run_bind,Sem.run_pure,Result.andThen_ok,run_newRowS]
 ·rw[if_neg hc0]
  simp only[Sem.run_bind,Sem.run_pure,Result.andThen_ok,hz1]
  rw[hf]
  simp only[Sem.run_bind,Sem.run_pure,Result.andThen_ok,run_newRowS]
theorem sizesOk_iff{sz:Nat}{es:List SV}(h:sizesOk sz es=true):(∀e∈es,e.n=sz)∧∀e∈es,flatS e=true:=by
 unfold sizesOk at h
 rw[List.all_eq_true]at h
 exact⟨fun e he=>by have:=h e he;simp at this;exact this.1,fun e he=>by have:=h e he;simp at this;exact this.2⟩
theorem flatC_one{ι:IM}{F:Fset}{w:World}:∀{xs:List SV} {zs:List Value},VRs ι F w xs zs→(∀e∈xs,flatS e=true)→∀v∈flatC zs,v.oneCell'=true
 |[],zs,h,_,v,hv=>by simp only[VRs]at h;subst h;simp[flatC]at hv
 |x::r,zs,h,hf,v,hv=>by
  obtain⟨z,zs',rfl,h1,h2⟩:=h
  simp only[flatC,List.flatMap_cons,List.mem_append]at hv
  rcases hv with hv|hv
  ·exact flat_one h1 (hf x (by simp)) v hv
  ·exact flatC_one h2 (fun e he=>hf e (List.mem_cons_of_mem _ he)) v hv
theorem growBy_le(n:Nat):∀r c,Builtin.growBy n r c≤max c (n+(n+768)/4)
 |0,c=>Nat.le_max_left _ _
 |r+1,c=>by
  unfold Builtin.growBy
  split
  ·exact Nat.le_max_left _ _
  ·rename_i h
   have:=growBy_le n r (c+(c+768)/4)
   omega
theorem nsc_le{need old:Nat}(h:old<need):Builtin.nextslicecap need old≤3*need:=by
 unfold Builtin.nextslicecap
 split
 ·omega
 ·split
  ·omega
  ·have:=growBy_le need 4 old
   omega
theorem run_chooseCap(P:Program)(need old:Nat)(e:TypeId)(w:World):∃k,(choose (.appendCap need old e)).run P w=.ok (need+k) w.drew:=
 ⟨_,rfl⟩
theorem zeroCells_size(z:Array Value)(n:Nat):(Builtin.zeroCells z n).size=n*z.size:=by simp[Builtin.zeroCells]
theorem run_append_in{P:Program}{t u e:TypeId}{ts:Array TypeId}{r:TypeId}{base:Option Addr}{sLen sCap n sz:Nat}{b:Value}{w:World}{ys:List Value}(h0:ts[0]?=some t)(h1:ts[1]?=some u)(hu:P.underlying t=some (.slice e))(hv:∃d,P.underlying u=some d∧∀k,d≠.int k)
  (hsz:(sizeOf e).run P w=.ok sz w) (hlen:(Builtin.lenOf b).run P w=.ok n w) (hx:(Builtin.firstCells sz n b).run P w=.ok ys.toArray w) (hle:sLen+n≤sCap) {xs:Array Value} (hxs0:xs[0]?=some (.slice base sLen sCap)) (hxs1:xs[1]?=some b) {w':World}
  (hst:(match base with|some a=>storeCells (a.add (sLen*sz)) ys|none=>pure ()).run P w=.ok () w') :
  (Builtin.append_ ts r xs).run P w=.ok (.slice base (sLen+n) sCap) w':=by
 obtain⟨d,hd,hnk⟩:=hv
 unfold Builtin.append_
 have hm:(match d with|.int _=>true|_=>false)=false:=by cases d<;>first|rfl|exact absurd rfl (hnk _)
 simp only[h0,h1,hxs0,hxs1,Sem.run_bind,run_underlying hu,run_underlying hd,Result.andThen_ok,hsz,Sem.run_pure,hm]
 simp only[Bool.false_eq_true,if_false,hlen,Result.andThen_ok,Sem.run_bind]
 rw[if_pos hle]
 simp only[Bool.not_false,if_true,Sem.run_bind,hx,Result.andThen_ok]
 cases base with
 |none=>simp only at hst ⊢;simp only[Sem.run_pure]at hst ⊢;cases hst;rfl
 |some a=>simp only at hst ⊢;simp only[Sem.run_bind,hst,Result.andThen_ok,Sem.run_pure]
theorem run_append_new{P:Program}{t u e:TypeId}{ts:Array TypeId}{r:TypeId}{base:Option Addr}{sLen sCap n sz by_:Nat}{b z:Value}{w:World}{ys os:List Value}(h0:ts[0]?=some t)(h1:ts[1]?=some u)(hu:P.underlying t=some (.slice e))(hv:∃d,P.underlying u=some d∧∀k,d≠.int k)
  (hsz:∀w,(sizeOf e).run P w=.ok sz w) (hti:∃d,P.info? e=some d∧d.bytes=by_) (hz:∀w,(zeroValue e).run P w=.ok z w) (hlen:(Builtin.lenOf b).run P w=.ok n w) (hx:(Builtin.firstCells sz n b).run P w.drew=.ok ys.toArray w.drew) (ho:(Builtin.firstCells sz sLen (.slice base sLen sCap)).run P w.drew=.ok os.toArray w.drew)
  (hlt:sCap<sLen+n) (hb:(sLen+n)*by_≤roomS) (hb':sLen+n≤roomS) {xs:Array Value} (hxs0:xs[0]?=some (.slice base sLen sCap)) (hxs1:xs[1]?=some b) :
  ∃k rest,(Builtin.append_ ts r xs).run P w=.ok (.slice (some ⟨w.heap.size,0,none⟩) (sLen+n) (sLen+n+k)) (w.drew.alloc (.cells (os.toArray++ys.toArray++rest) e))∧rest.size=k*z.cells.size:=by
 obtain⟨d,hd,hnk⟩:=hv
 obtain⟨di,hdi,hby⟩:=hti
 obtain⟨k,hk⟩:=run_chooseCap P (sLen+n) sCap e w
 refine⟨k,Builtin.zeroCells z.cells k,?_,zeroCells_size _ _⟩
 unfold Builtin.append_
 have hm:(match d with|.int _=>true|_=>false)=false:=by cases d<;>first|rfl|exact absurd rfl (hnk _)
 simp only[h0,h1,hxs0,hxs1,Sem.run_bind,run_underlying hu,run_underlying hd,Result.andThen_ok,hsz,Sem.run_pure,hm]
 simp only[Bool.false_eq_true,if_false,hlen,Result.andThen_ok,Sem.run_bind]
 rw[if_neg (by omega)]
 have hti:∀w,(typeInfo e).run P w=.ok di w:=fun w=>by simp[typeInfo,hdi]
 unfold roomS at hb hb'
 have hn:¬(((sLen+n:Nat):Int)>IntKind.i64.max∧(false=true∨di.bytes=0)):=by
  rintro⟨h,_⟩
  have:IntKind.i64.max=9223372036854775807:=rfl
  rw[this]at h
  omega
 have hg:¬(Builtin.nextslicecap (sLen+n) sCap*di.bytes>2^48):=by
  have h1:=nsc_le hlt
  have h2:Builtin.nextslicecap (sLen+n) sCap*by_≤3*(sLen+n)*by_:=Nat.mul_le_mul_right _ h1
  rw[Nat.mul_assoc]at h2
  rw[hby]
  simp only[Nat.reducePow]
  omega
 simp only[Sem.run_bind,hti,Result.andThen_ok]
 rw[if_neg (by simpa using hn)]
 simp only[Sem.run_bind,hti,Result.andThen_ok]
 rw[if_neg hg]
 simp only[Sem.run_bind,hk,Result.andThen_ok,run_askRoom,ho,Bool.not_false,if_true,hx,hz,hti]
 rw[show sLen+n+k-(sLen+n)=k by omega]
 rfl
theorem Rel.app{ι:IM}{F:Fset}{S:Zt}{w:World}(h:Rel ι F S w)(T:Zt):∃F0,Rel ι F0 (S++T) w∧Ext ι F S w ι F0 (S++T) w:=⟨_,h.sub (Sub.append S T)⟩
theorem lenOf_slice(P:Program)(A:Option Addr)(n c:Nat)(w:World):(Builtin.lenOf (.slice A n c)).run P w=.ok n w:=rfl
theorem append_fresh{P:Program}{cfg:Cfg}(hT:TyAll P cfg){t u e:TypeId}{j:TyI}(hu:P.underlying t=some (.slice e))(hu2:∃d,P.underlying u=some d∧∀k,d≠.int k)(hj:cfg.ty e=some j)(hzn0:j.zero.n=j.size){ι:IM}{F:Fset}{S:Zt}{w:World}(hR:Rel ι F S w)
  {s x:SV} {os xs:List SV} {a b:Value} (hs:VR ι F w s a) (hx:VR ι F w x b) (hso:elemsS S s=some os) (hxs:elemsS S x=some xs) (h0:0<j.size) (hos:∀e∈os,e.n=j.size) (hxn:∀e∈xs,e.n=j.size)
  (hcap:∀A cap,a=.slice A os.length cap→cap<os.length+xs.length) (hb:(os.length+xs.length)*j.bytes≤roomS) (hb':os.length+xs.length≤roomS) {ts:Array TypeId} {r:TypeId} {vs:Array Value} (ht0:ts[0]?=some t) (ht1:ts[1]?=some u) (hv0:vs[0]?=some a) (hv1:vs[1]?=some b) :
  ∃y ι' F' w',(Builtin.append_ ts r vs).run P w=.ok y w'∧VR ι' F' w' (.osl S.length j.size 0 (os.length+xs.length) none) y∧Rel ι' F' (S++[.cells (os++xs) true]) w'∧Ext ι F S w ι' F' (S++[.cells (os++xs) true]) w':=by
 have hk:=hT.ty _ _ hj
 obtain⟨di,hdi,hsz,hby,z,hz,hzv⟩:=hk.info
 obtain⟨hRd,hud⟩:=hR.sameHeap (w':=w.drew) rfl
 obtain⟨A,cap,zo,rfl,k1,k2,k3⟩:=elems_ok (P:=P) hRd (Sub.refl S) (hs.up hud) hso hos h0
 obtain⟨B,capb,zx,rfl,m1,m2,m3⟩:=elems_ok (P:=P) hRd (Sub.refl S) (hx.up hud) hxs hxn h0
 have hko:=k3 os.length (Nat.le_refl _)
 have hkx:=m3 xs.length (Nat.le_refl _)
 rw[k1.length,List.take_length]at hko
 rw[m1.length,List.take_length]at hkx
 rw[←k1.length]at hko
 rw[←m1.length]at hkx
 obtain⟨k,rest,hrun,hrest⟩:=run_append_new (z:=z) (r:=r) ht0 ht1 hu hu2 (fun w=>hk.size w) ⟨di,hdi,hby⟩ (fun w=>by simp[zeroValue,typeInfo,hdi,hz]) (lenOf_slice P B xs.length capb w) hkx hko (hcap A cap rfl) hb hb' hv0 hv1
 obtain⟨F0,hR0,hE0⟩:=hRd.app [.cells (os++xs) true]
 have hnew:(S++[Row.cells (os++xs) true])[S.length]?=some (.cells (os++xs) true):=by simp
 have hnone:ι S.length=none:=by
  cases hi:ι S.length with
  |none=>rfl
  |some ix=>have:=hR.dom _ _ hi;omega
 have hcs:∀z∈zo++zx,z.cells.size=j.size:=fun z hz=>(List.mem_append.1 hz).elim (k2 z) (m2 z)
 have hflat:flatC (zo++zx)=flatC zo++flatC zx:=by simp[flatC]
 have hfl:=flatC_len _ hcs
 have hzl:(zo++zx).length=os.length+xs.length:=by rw[List.length_append,k1.length,m1.length]
 have hcsz:((flatC zo).toArray++(flatC zx).toArray++rest).size=(os.length+xs.length)*j.size+k*z.cells.size:=by
  rw[hflat]at hfl
  simp only[Array.size_append,List.size_toArray,hrest]
  rw[List.length_append]at hfl
  rw[hfl,hzl]
 have hzn:z.cells.size=j.size:=by rw[←hzn0];exact(hzv ι F w).n.symm
 obtain⟨ι',F',hR',hQ,hι⟩:=hR0.allocQ (id:=S.length) (es:=os++xs) (lv:=true) (c:=(flatC zo).toArray++(flatC zx).toArray++rest) (t:=e) (sz:=j.size) (cp:=os.length+xs.length+k) hnone hnew h0 (by rw[hcsz];simp) (by rw[hcsz,hzn,←Nat.add_mul];exact Nat.le_refl _) (fun i e' he'=>by
  have hall:=(k1.append m1).up hE0.up
  obtain⟨y,hy,hyv⟩:=hall.get he'
  refine⟨y,hyv,hcs y (List.mem_of_getElem? hy),fun l hl=>?_⟩
  have:=flatC_get _ i l y hcs hy hl
  rw[←this,hflat,←Array.getElem?_toList]
  simp only[Array.toList_append]
  rw[List.getElem?_append_left]
  have hi:i<os.length+xs.length:=by
   have:=(List.getElem?_eq_some_iff.1 hy).1
   omega
  have h5:(i+1)*j.size≤(os.length+xs.length)*j.size:=Nat.mul_le_mul_right _ hi
  rw[Nat.add_mul,Nat.one_mul]at h5
  rw[hflat,hzl]at hfl
  simp only[List.length_append]at hfl ⊢
  omega)
 refine⟨_,ι',F',_,hrun,?_,hR',?_⟩
 ·exact⟨_,_,_,_,hι,rfl,rfl,by omega,(fun _ h=>by cases h),fun _=>⟨rfl,by simp,by simp⟩⟩
 ·have e0:Ext ι F S w ι F S w.drew:=⟨hud,Nat.le_refl _,Nat.le_refl _,fun _ _ h=>h,fun _ _ h=>.inl h,fun _ _ h=>.inl h,fun _ _ _=>rfl,rfl,rfl,rfl⟩
  exact e0.trans hR.dom (hE0.quiet hQ)
theorem elemsS_len{ι:IM}{F:Fset}{S:Zt}{w:World}{x:SV}{xs:List SV}{a:Value}(hx:VR ι F w x a)(h:elemsS S x=some xs):∃A cap,a=.slice A xs.length cap∧xs.length≤cap:=by
 cases x with
 |vsl es c=>simp only[elemsS]at h;cases h;obtain⟨A,cap,rfl,hle,-⟩:=hx;exact⟨A,cap,rfl,hle⟩
 |osl id s off len cp=>
  simp only[elemsS]at h
  split at h
  ·split at h
   ·cases h
    obtain⟨ix,c,b,o,-,-,rfl,hle,-⟩:=hx
    have:((‹List SV›.drop off).take len).length=len:=by simp;omega
    exact⟨_,_,by rw[this],by rw[this];exact hle⟩
   ·cases h
  ·cases h
 |_=>simp only[elemsS]at h;cases h
theorem Rel.kill{ι:IM}{F:Fset}{S:Zt}{w:World}(h:Rel ι F S w){id:Nat}(hid:id<S.length):Rel ι F (S.set id .dead) w∧Ext ι F S w ι F (S.set id .dead) w:=by
 have same:∀k r,(S.set id .dead)[k]?=some r→r≠Row.dead→S[k]?=some r:=fun k r hr hn=>by
  by_cases hk:id=k
  ·subst hk;rw[List.getElem?_set_self hid]at hr;cases hr;exact absurd rfl hn
  ·rwa [List.getElem?_set_ne hk]at hr
 have al:∀k,alive (S.set id .dead) k→alive S k:=fun k ⟨r,hr,hn⟩=>⟨r,same k r hr hn,hn⟩
 refine⟨⟨fun k ix hk=>by rw[List.length_set];exact h.dom _ _ hk,fun k ix es lv hk hr=>h.row _ _ _ _ hk (same _ _ hr (by simp)),fun k ix env ps as bd st pe hk hr=>h.loop _ _ _ _ _ _ _ _ hk (same _ _ hr (by simp)),fun k k' ix ix' hk hk' ha ha'=>h.inj _ _ _ _ hk hk' (al _ ha) (al _ ha'),h.fok⟩,
  ⟨.refl _ _ _,Nat.le_refl _,by simp,fun k _ ha=>?_,fun _ _ h=>.inl h,fun _ _ h=>.inl h,fun _ _ _=>rfl,rfl,rfl,rfl⟩⟩
 unfold act at ha ⊢
 by_cases hk:id=k
 ·subst hk;rw[List.getElem?_set_self hid]at ha;simp[liveR]at ha
 ·rwa [List.getElem?_set_ne hk]at ha
theorem appendS_ok{P:Program}{cfg:Cfg}(hT:TyAll P cfg){t u e:TypeId}{j:TyI}(hu:P.underlying t=some (.slice e))(hu2:∃d,P.underlying u=some d∧∀k,d≠.int k)(hj:cfg.ty e=some j)(hzn:j.zero.n=j.size){ι:IM}{F:Fset}{S S':Zt}{w:World}(hR:Rel ι F S w)
  {s x v:SV} {a b:Value} (hs:VR ι F w s a) (hx:VR ι F w x b) (h:appendS j.size j.bytes S s x=some (v,S')) {ts:Array TypeId} {r:TypeId} {vs:Array Value} (ht0:ts[0]?=some t) (ht1:ts[1]?=some u) (hv0:vs[0]?=some a) (hv1:vs[1]?=some b) :
  ∃y ι' F' w',(Builtin.append_ ts r vs).run P w=.ok y w'∧VR ι' F' w' v y∧Rel ι' F' S' w'∧Ext ι F S w ι' F' S' w':=by
 have hk:=hT.ty _ _ hj
 unfold appendS at h
 rw[Option.bind_eq_some_iff]at h
 obtain⟨xs,hxs,h⟩:=h
 obtain⟨B,capb,rfl,-⟩:=elemsS_len hx hxs
 split at h
 ·
  rename_i he
  have he':xs=[]:=by simpa using he
  subst he'
  have hrun:∀A n cap,n≤cap→vs[0]?=some (.slice A n cap)→(Builtin.append_ ts r vs).run P w=.ok (.slice A n cap) w:=by
   intro A n cap hle hv
   have:=run_append_in (P:=P) (r:=r) (base:=A) (sLen:=n) (sCap:=cap) (n:=0) (w:=w) (w':=w) (ys:=[]) ht0 ht1 hu hu2 (hk.size w) (lenOf_slice P B 0 capb w) (by cases B<;>simp[Builtin.firstCells,loadCells,loadCellsFrom]) hle hv hv1 (by cases A<;>simp[storeCells])
   exact this
  split at h
  ·cases h
   have hs':=hs
   obtain⟨A,cap,rfl,hle,-⟩:=hs'
   exact⟨_,ι,F,w,hrun _ _ _ hle hv0,hs,hR,Ext.refl _ _ _ _⟩
  ·cases h
   have hs':=hs
   obtain⟨ix,c,b,o,-,-,rfl,hle,-⟩:=hs'
   exact⟨_,ι,F,w,hrun _ _ _ hle hv0,hs,hR,Ext.refl _ _ _ _⟩
  ·cases h
 ·rename_i hne
  have hpos:0<xs.length:=by
   cases xs with
   |nil=>simp at hne
   |cons _ _=>simp
  split at h
  ·rename_i hok
   simp only[Bool.and_eq_true,bne_iff_ne,ne_eq]at hok
   obtain⟨hok1,hsz0⟩:=hok
   obtain⟨hxn,hxf⟩:=sizesOk_iff hok1
   have h0:0<j.size:=Nat.pos_of_ne_zero hsz0
   split at h
   ·rename_i es c
    split at h
    ·rename_i hc
     simp only[Bool.and_eq_true,bne_iff_ne,ne_eq,decide_eq_true_eq]at hc
     obtain⟨⟨⟨hc1,hc2⟩,hc3⟩,hc4⟩:=hc
     cases h
     refine append_fresh hT hu hu2 hj hzn hR hs hx rfl hxs h0 (sizesOk_iff hc2).1 hxn ?_ hc3 hc4 ht0 ht1 hv0 hv1
     intro A cap hA
     obtain⟨A',cap',rfl,hle,hnil,-,hex⟩:=hs
     cases hA
     cases c with
     |nil=>obtain⟨_,rfl,rfl⟩:=hnil rfl;simp;exact hpos
     |exact=>have:=hex rfl;omega
     |loose=>exact absurd rfl hc1
    ·cases h
   ·rename_i id sz' off len cp
    split at h
    ·rename_i es live hS
     split at h
     ·rename_i hc
      simp only[Bool.and_eq_true,decide_eq_true_eq,beq_iff_eq]at hc
      obtain⟨⟨⟨hc1,hc2⟩,hc3⟩,hc4⟩:=hc
      subst hc1
      have hs':=hs
      obtain⟨ix,cc,b,o,hix,hsz,rfl,hle,hcap,haddr⟩:=hs'
      have hrow:=hR.row _ _ _ _ hix hS
      have hso:elemsS S (.osl id j.size off len cp)=some ((es.drop off).take len):=by
       simp only[elemsS,hS];rw[if_pos hc4]
      have hol:((es.drop off).take len).length=len:=by simp;omega
      have hos:∀e∈(es.drop off).take len,e.n=j.size:=by
       intro e he
       obtain⟨i,hi,rfl⟩:=List.getElem_of_mem he
       have:es[off+i]?=some ((es.drop off).take len)[i]:=by
        rw[List.getElem_take,List.getElem_drop,List.getElem?_eq_getElem]
       obtain⟨y,hy,hys,_⟩:=hrow.at_ _ _ this
       rw[hy.n,hys,hsz]
      have fresh:cc<len+xs.length→∃y ι' F' w',(Builtin.append_ ts r vs).run P w=.ok y w'∧VR ι' F' w' (.osl S.length j.size 0 (len+xs.length) none) y∧Rel ι' F' (S++[.cells ((es.drop off).take len++xs) true]) w'∧Ext ι F S w ι' F' (S++[.cells ((es.drop off).take len++xs) true]) w':=by
       intro hlt
       have:=append_fresh hT hu hu2 hj hzn hR hs hx hso hxs h0 hos hxn (by
        intro A cap hA;rw[hol]at hA;cases hA;rw[hol];exact hlt) (by rw[hol];exact hc2) (by rw[hol];exact hc3) (r:=r) ht0 ht1 hv0 hv1
       rw[hol]at this
       exact this
      have inplace:live=true→len+xs.length≤cc→∀(id':Nat) (ix':Ix) (es':List SV) (S1:Zt),ix'.b=ix.b→ix'.sz=ix.sz→S1[id']?=some (.cells es' true)→S.length≤S1.length→(∀k,k≠id→k<S.length→S1[k]?=S[k]?)→
        ((id'=id∧ix'=ix)∨(S.length≤id'∧S1[id]?=some .dead))→(∀c,ix.o+es.length*ix.sz≤c→ix.o+ix.cp*ix.sz≤c→ix'.o+es'.length*ix.sz≤c)→ix'.o+ix'.cp*ix.sz≤ix.o+ix.cp*ix.sz→
        (∃d m,ix'.o+d*ix.sz=ix.o+off*ix.sz∧(∀i e,es'[i]?=some e→(d+len≤i∧i<d+len+xs.length∧xs[i-(d+len)]?=some e)∨(∃i',es[i']?=some e∧ix'.o+i*ix.sz=ix.o+i'*ix.sz∧(i<d+len∨d+len+xs.length≤i)))∧m=d)→
        ∃w',(Builtin.append_ ts r vs).run P w=.ok (.slice (some ⟨b,o,none⟩) (len+xs.length) cc) w'∧Rel (ι.put id' ix') F S1 w'∧Ext ι F S w (ι.put id' ix') F S1 w':=by
       intro hl hfit id' ix' es' S1 hb' hsz' hS1 hlen hoth hcase hrm hrm' hel
       subst hl
       obtain⟨d,_,hd,hel,-⟩:=hel
       obtain⟨rfl,rfl,hcp⟩:=haddr (by omega)
       obtain⟨Bx,capx,zx,hBx,m1,m2,m3⟩:=elems_ok (P:=P) hR (Sub.refl S) hx hxs hxn h0
       have hkx:=m3 xs.length (Nat.le_refl _)
       rw[m1.length,List.take_length,←m1.length]at hkx
       obtain⟨c,ct,fr,hb,hbl,hfr⟩:=hrow.blk
       have hcb:=hrow.cap _ _ _ hb
       have hfl:=flatC_len _ m2
       rw[←m1.length]at hfl
       have hfit2:(off+len+xs.length)*ix.sz≤ix.cp*ix.sz:=Nat.mul_le_mul_right _ (by omega)
       have hrange:ix.o+off*j.size+len*j.size+(flatC zx).length≤c.size:=by
        rw[hfl,←hsz]
        rw[Nat.add_mul,Nat.add_mul]at hfit2
        omega
       have hst:=run_storeCells_row (P:=P) hR hix hS (flatC_one m1 hxf) (o:=ix.o+off*j.size+len*j.size) hb hrange
       obtain⟨c',hb2,hcs'⟩:=setCells_heap (flatC zx) (ix.o+off*j.size+len*j.size) w c hb
       refine⟨w.setCells ix.b (ix.o+off*j.size+len*j.size) (flatC zx),run_append_in ht0 ht1 hu hu2 (hk.size w) (lenOf_slice P B xs.length capb w) hkx hfit hv0 hv1 (by simp only[add_at];exact hst),?_⟩
       refine Rel.write hR hix hS (setCells_wrote _ _ _) hb' hsz' hS1 hlen hoth hcase ⟨c',ct,by rw[hb2,hfr rfl],by rw[hcs'];exact hrm _ hbl hcb,by omega⟩ ?_
       intro i e he
       rcases hel i e he with⟨h1,h2,h3⟩|⟨i',h1,h2,h3⟩
       ·obtain⟨y,hy,hyv⟩:=m1.get h3
        refine⟨y,hyv,(m2 y (List.mem_of_getElem? hy)).trans hsz.symm,fun l hl=>?_⟩
        have hg:=flatC_get zx (i-(d+len)) l y m2 hy (hsz▸hl)
        have hi5:(i-(d+len)+1)*j.size≤xs.length*j.size:=Nat.mul_le_mul_right _ (by omega)
        rw[Nat.add_mul,Nat.one_mul]at hi5
        have hpl:ix'.o+i*ix.sz=ix.o+off*j.size+len*j.size+(i-(d+len))*j.size:=by
         have:i*ix.sz=d*ix.sz+len*ix.sz+(i-(d+len))*ix.sz:=by
          rw[←Nat.add_mul,←Nat.add_mul];congr 1;omega
         rw[this,←hsz];omega
        have hin:=World.cell?_setCells_in ix.b (flatC zx) (ix.o+off*j.size+len*j.size) w (fun q hq=>by simp only[World.cell?,hb];simp;omega) ((i-(d+len))*j.size+l) (by rw[hfl];rw[hsz]at hl;omega)
        have e1:ix'.o+i*ix.sz+l=ix.o+off*j.size+len*j.size+((i-(d+len))*j.size+l):=by rw[hpl];omega
        rw[e1,hin,←hg,List.getElem?_eq_getElem]
       ·obtain⟨y,hy,hys,hyc⟩:=hrow.at_ _ _ h1
        refine⟨y,hy,hys,fun l hl=>?_⟩
        rw[h2,←hyc l hl]
        refine World.cell?_setCells_out _ _ _ _ _ (fun _ _=>?_)
        simp only[]
        rw[hfl,←h2,←hsz]
        rcases h3 with h3|h3
        ·left
         have:(i+1)*ix.sz≤(d+len)*ix.sz:=Nat.mul_le_mul_right _ h3
         rw[Nat.add_mul,Nat.one_mul,Nat.add_mul]at this
         omega
        ·right
         have:(d+len+xs.length)*ix.sz≤i*ix.sz:=Nat.mul_le_mul_right _ h3
         rw[Nat.add_mul,Nat.add_mul]at this
         omega
      split at h
      ·rename_i c0
       have hcc:=hcap c0 rfl
       subst hcc
       split at h
       ·rename_i hfit
        split at h
        ·rename_i hlive
         rw[Option.bind_eq_some_iff]at h
         obtain⟨es',hsp,h⟩:=h
         cases h
         unfold spliceS at hsp
         split at hsp
         ·rename_i hspl
          cases hsp
          have hl1:(es.take (off+len)).length=off+len:=by simp;omega
          have hidlt:=(List.getElem?_eq_some_iff.1 hS).1
          obtain⟨w',hrun,hR',hE'⟩:=inplace hlive hfit id ix (es.take (off+len)++xs++es.drop (off+len+xs.length)) (S.set id (.cells (es.take (off+len)++xs++es.drop (off+len+xs.length)) true)) rfl rfl
           (by rw[List.getElem?_set_self hidlt]) (by simp) (fun k hk _=>by rw[List.getElem?_set_ne (Ne.symm hk)]) (.inl ⟨rfl,rfl⟩)
           (fun c h1 _=>by
            have:(es.take (off+len)++xs++es.drop (off+len+xs.length)).length=es.length:=by simp;omega
            rw[this];exact h1) (Nat.le_refl _)
           ⟨off,off,rfl,(fun i e he=>by
            by_cases h1:i<off+len
            ·rw[List.append_assoc,List.getElem?_append_left (by omega),List.getElem?_take,if_pos h1]at he
             exact .inr ⟨i,he,rfl,.inl h1⟩
            ·by_cases h2:i<off+len+xs.length
             ·rw[List.append_assoc,List.getElem?_append_right (by omega),hl1,List.getElem?_append_left (by omega)]at he
              exact .inl ⟨by omega,h2,he⟩
             ·rw[List.getElem?_append_right (by simp;omega),List.getElem?_drop]at he
              simp only[List.length_append,hl1]at he
              rw[show off+len+xs.length+(i-(off+len+xs.length))=i by omega]at he
              exact .inr ⟨i,he,rfl,.inr (by omega)⟩),rfl⟩
          have hp:ι.put id ix=ι:=by
           funext k;unfold IM.put;split
           ·rename_i e;rw[e,hix]
           ·rfl
          rw[hp]at hR' hE'
          refine⟨_,ι,F,w',hrun,?_,hR',hE'⟩
          exact⟨ix,_,b,o,hix,hsz,rfl,hfit,(fun k hk=>by cases hk;rfl),haddr⟩
         ·cases hsp
        ·cases h
       ·rename_i hfit
        cases h
        exact fresh (by omega)
      ·split at h
       ·rename_i hlive
        cases h
        by_cases hfit:len+xs.length≤cc
        ·obtain⟨rfl,rfl,hcp⟩:=haddr (by omega)
         have hidlt:=(List.getElem?_eq_some_iff.1 hS).1
         have hcpe:off*ix.sz+(ix.cp-off)*ix.sz=ix.cp*ix.sz:=by rw[←Nat.add_mul];congr 1;omega
         obtain⟨w',hrun,hR',hE'⟩:=inplace hlive hfit S.length ⟨ix.b,ix.o+off*ix.sz,ix.sz,ix.cp-off⟩ ((es.drop off).take len++xs) (S.set id .dead++[.cells ((es.drop off).take len++xs) true]) rfl rfl
          (by rw[List.getElem?_append_right (by simp)];simp) (by simp) (fun k hk hl=>by rw[List.getElem?_append_left (by simpa using hl),List.getElem?_set_ne (Ne.symm hk)]) (.inr ⟨Nat.le_refl _,by rw[List.getElem?_append_left (by simpa using hidlt),List.getElem?_set_self hidlt]⟩)
          (fun c _ h2=>by
           rw[List.length_append,hol]
           have h5:(len+xs.length)*ix.sz≤(ix.cp-off)*ix.sz:=Nat.mul_le_mul_right _ (by omega)
           simp only[]
           omega) (by simp only[];omega)
          ⟨0,0,by simp,(fun i e he=>by
           by_cases h1:i<len
           ·rw[List.getElem?_append_left (by omega),List.getElem?_take,if_pos h1,List.getElem?_drop]at he
            exact .inr ⟨off+i,he,by rw[Nat.add_mul];simp only[];omega,.inl (by omega)⟩
           ·rw[List.getElem?_append_right (by omega),hol]at he
            have h2:=(List.getElem?_eq_some_iff.1 he).1
            exact .inl ⟨by omega,by omega,by rw[Nat.zero_add];exact he⟩),rfl⟩
         refine⟨_,_,F,w',hrun,?_,hR',hE'⟩
         exact⟨⟨ix.b,ix.o+off*ix.sz,ix.sz,ix.cp-off⟩,_,_,_,by simp[IM.put],hsz,rfl,hfit,(fun k hk=>by cases hk),fun _=>⟨rfl,by simp[hsz],by simp only[];omega⟩⟩
        ·obtain⟨y,ι',F',w',hrun,hv,hR',hE'⟩:=fresh (by omega)
         have hidlt:=(List.getElem?_eq_some_iff.1 hS).1
         obtain⟨hRk,hEk⟩:=hR'.kill (id:=id) (by simp;omega)
         have hse:(S++[Row.cells ((es.drop off).take len++xs) true]).set id .dead=S.set id .dead++[Row.cells ((es.drop off).take len++xs) true]:=List.set_append_left _ _ hidlt
         rw[hse]at hRk hEk
         exact⟨y,ι',F',w',hrun,hv,hRk,hE'.trans hR.dom hEk⟩
       ·cases h
     ·cases h
    ·cases h
   ·cases h
  ·cases h
theorem firstCells_zero(P:Program)(sz:Nat)(A:Option Addr)(n c:Nat)(w:World):(Builtin.firstCells sz 0 (.slice A n c)).run P w=.ok #[] w:=by
 cases A<;>simp[Builtin.firstCells,loadCells,loadCellsFrom]
theorem copyS_ok{P:Program}{cfg:Cfg}(hT:TyAll P cfg){t e:TypeId}{j:TyI}(hu:P.underlying t=some (.slice e))(hj:cfg.ty e=some j){ι:IM}{F:Fset}{S S':Zt}{w:World}(hR:Rel ι F S w)
  {d s v:SV} {a b:Value} (hd:VR ι F w d a) (hs:VR ι F w s b) (h:copyS j.size S d s=some (v,S')) {ts:Array TypeId} {r:TypeId} {vs:Array Value} (ht0:ts[0]?=some t) (hv0:vs[0]?=some a) (hv1:vs[1]?=some b) :
  ∃y w',(Builtin.copy_ ts r vs).run P w=.ok y w'∧VR ι F w' v y∧Rel ι F S' w'∧Ext ι F S w ι F S' w':=by
 have hk:=hT.ty _ _ hj
 unfold copyS at h
 rw[Option.bind_eq_some_iff]at h
 obtain⟨xs,hxs,h⟩:=h
 obtain⟨B,capb,rfl,-⟩:=elemsS_len hs hxs
 have run:∀(A:Option Addr) (len cap:Nat) (ys:List Value) (w':World),a=.slice A len cap→(Builtin.firstCells j.size (Nat.min xs.length len) (.slice B xs.length capb)).run P w=.ok ys.toArray w→
   (match A with|some a=>storeCells a ys|none=>pure ()).run P w=.ok () w'→(Builtin.copy_ ts r vs).run P w=.ok (.int .i64 (Nat.min xs.length len:Nat)) w':=by
  intro A len cap ys w' ha hf hst
  subst ha
  unfold Builtin.copy_
  simp only[ht0,hv0,hv1,Sem.run_bind,run_underlying hu,Result.andThen_ok,Builtin.lenOf,Sem.run_pure,hk.size,hf]
  cases A with
  |none=>simp only[Sem.run_pure]at hst ⊢;cases hst;rfl
  |some a=>simp only at hst ⊢;simp only[Sem.run_bind,hst,Result.andThen_ok];rfl
 have zero:∀(A:Option Addr) (len cap:Nat),a=.slice A len cap→Nat.min xs.length len=0→v=.int .i64 0→S'=S→∃y w',(Builtin.copy_ ts r vs).run P w=.ok y w'∧VR ι F w' v y∧Rel ι F S' w'∧Ext ι F S w ι F S' w':=by
  intro A len cap ha hm hv hS
  subst hv;subst hS
  refine⟨_,w,run A len cap [] w ha (by rw[hm];exact firstCells_zero P _ _ _ _ w) (by cases A<;>simp[storeCells]),?_,hR,Ext.refl _ _ _ _⟩
  rw[hm];rfl
 split at h
 ·rename_i es c
  obtain⟨A,cap,rfl,-⟩:=hd
  split at h
  ·rename_i hc
   cases h
   refine zero _ _ _ rfl ?_ rfl rfl
   simp only[Bool.or_eq_true,List.isEmpty_iff]at hc
   rcases hc with rfl|rfl
   ·simp
   ·simp
  ·cases h
 ·rename_i id sz' off len cp
  have hd':=hd
  obtain⟨ix,cc,b,o,hix,hsz,rfl,hle,hcap,haddr⟩:=hd'
  simp only[]at h
  split at h
  ·rename_i hc
   cases h
   refine zero _ _ _ rfl ?_ rfl rfl
   have:=congrArg List.length (by simpa using hc:xs.take len=[])
   simp at this
   rcases this with h|h
   ·subst h;simp
   ·subst h;simp
  ·rename_i hne
   split at h
   ·rename_i es hS
    split at h
    ·rename_i hc
     simp only[Bool.and_eq_true,decide_eq_true_eq,beq_iff_eq,bne_iff_ne,ne_eq]at hc
     obtain⟨⟨⟨hc1,hc0⟩,hc2⟩,hc3⟩:=hc
     subst hc1
     rw[Option.bind_eq_some_iff]at h
     obtain⟨es',hsp,h⟩:=h
     cases h
     obtain⟨hxn,hxf⟩:=sizesOk_iff hc2
     have h0:0<j.size:=Nat.pos_of_ne_zero hc0
     have hyl:(xs.take len).length=Nat.min xs.length len:=by simp[Nat.min_comm]
     have hpos:0<(xs.take len).length:=by
      rcases Nat.eq_zero_or_pos (xs.take len).length with h|h
      ·exact absurd (by simpa using List.eq_nil_of_length_eq_zero h) hne
      ·exact h
     have hlp:0<len:=by simp at hpos;omega
     obtain⟨rfl,rfl,hcp⟩:=haddr (by omega)
     have hrow:=hR.row _ _ _ _ hix hS
     obtain⟨Bx,capx,zx,hBx,m1,m2,m3⟩:=elems_ok (P:=P) hR (Sub.refl S) hs hxs hxn h0
     have hkx:=m3 (Nat.min xs.length len) (Nat.min_le_left _ _)
     obtain⟨c,ct,fr,hb,hbl,hfr⟩:=hrow.blk
     have hmr:Nat.min xs.length len≤len:=Nat.min_le_right _ _
     have htk:xs.take (Nat.min xs.length len)=xs.take len:=by
      rcases Nat.le_total xs.length len with h|h
      ·rw[show Nat.min xs.length len=xs.length from Nat.min_eq_left h,List.take_length,List.take_of_length_le h]
      ·rw[show Nat.min xs.length len=len from Nat.min_eq_right h]
     have m1':VRs ι F w (xs.take len) (zx.take (Nat.min xs.length len)):=by
      have:=m1.take (Nat.min xs.length len)
      rwa [htk]at this
     have m2':∀z∈zx.take (Nat.min xs.length len),z.cells.size=j.size:=fun z hz=>m2 z (List.mem_of_mem_take hz)
     have hfl:=flatC_len _ m2'
     rw[←m1'.length]at hfl
     have h5:(off+(xs.take len).length)*ix.sz≤es.length*ix.sz:=Nat.mul_le_mul_right _ (by rw[hyl];omega)
     rw[Nat.add_mul]at h5
     have hrange:ix.o+off*j.size+(flatC (zx.take (Nat.min xs.length len))).length≤c.size:=by rw[hfl,←hsz];omega
     have hst:=run_storeCells_row (P:=P) hR hix hS (flatC_one m1' (fun e he=>hxf e (List.mem_of_mem_take he))) (o:=ix.o+off*j.size) hb hrange
     obtain⟨c',hb2,hcs'⟩:=setCells_heap (flatC (zx.take (Nat.min xs.length len))) (ix.o+off*j.size) w c hb
     refine⟨_,w.setCells ix.b (ix.o+off*j.size) (flatC (zx.take (Nat.min xs.length len))),run _ _ _ _ _ rfl hkx hst,by rw[hyl];rfl,?_⟩
     unfold spliceS at hsp
     split at hsp
     ·cases hsp
      have hidlt:=(List.getElem?_eq_some_iff.1 hS).1
      have hl1:(es.take off).length=off:=by simp;omega
      have hel:(es.take off++xs.take len++es.drop (off+(xs.take len).length)).length=es.length:=by simp at *;omega
      have hW:=Rel.write hR (id':=id) (ix':=ix) (es':=es.take off++xs.take len++es.drop (off+(xs.take len).length)) (S':=S.set id (.cells (es.take off++xs.take len++es.drop (off+(xs.take len).length)) true)) hix hS (setCells_wrote (flatC (zx.take (Nat.min xs.length len))) (ix.o+off*j.size) w) rfl rfl
       (by rw[List.getElem?_set_self hidlt]) (by simp) (fun k hk _=>by rw[List.getElem?_set_ne (Ne.symm hk)]) (.inl ⟨rfl,rfl⟩) ⟨c',ct,by rw[hb2,hfr rfl],by rw[hel,hcs'];exact hbl,by rw[hcs'];exact hrow.cap _ _ _ hb⟩ ?_
      ·have hp:ι.put id ix=ι:=by
        funext k;unfold IM.put;split
        ·rename_i e;rw[e,hix]
        ·rfl
       rw[hp]at hW
       exact hW
      ·intro i e he
       have old:es[i]?=some e→(i<off∨off+(xs.take len).length≤i)→∃x,VR ι F w e x∧x.cells.size=ix.sz∧∀l,l<ix.sz→(w.setCells ix.b (ix.o+off*j.size) (flatC (zx.take (Nat.min xs.length len)))).cell? ⟨ix.b,ix.o+i*ix.sz+l,none⟩=x.cells[l]?:=by
        intro h1 h3
        obtain⟨y,hy,hys,hyc⟩:=hrow.at_ _ _ h1
        refine⟨y,hy,hys,fun l hl=>?_⟩
        rw[←hyc l hl]
        refine World.cell?_setCells_out _ _ _ _ _ (fun _ _=>?_)
        simp only[]
        rw[hfl,←hsz]
        rcases h3 with h3|h3
        ·left
         have:(i+1)*ix.sz≤off*ix.sz:=Nat.mul_le_mul_right _ h3
         rw[Nat.add_mul,Nat.one_mul]at this
         omega
        ·right
         have:(off+(xs.take len).length)*ix.sz≤i*ix.sz:=Nat.mul_le_mul_right _ h3
         rw[Nat.add_mul]at this
         omega
       by_cases h1:i<off
       ·rw[List.append_assoc,List.getElem?_append_left (by omega),List.getElem?_take,if_pos h1]at he
        exact old he (.inl h1)
       ·by_cases h2:i<off+(xs.take len).length
        ·rw[List.append_assoc,List.getElem?_append_right (by omega),hl1,List.getElem?_append_left (by omega)]at he
         obtain⟨y,hy,hyv⟩:=m1'.get he
         refine⟨y,hyv,(m2' y (List.mem_of_getElem? hy)).trans hsz.symm,fun l hl=>?_⟩
         have hg:=flatC_get _ (i-off) l y m2' hy (hsz▸hl)
         have hi5:(i-off+1)*j.size≤(xs.take len).length*j.size:=Nat.mul_le_mul_right _ (by omega)
         rw[Nat.add_mul,Nat.one_mul]at hi5
         have hin:=World.cell?_setCells_in ix.b (flatC (zx.take (Nat.min xs.length len))) (ix.o+off*j.size) w (fun q hq=>by simp only[World.cell?,hb];simp;omega) ((i-off)*j.size+l) (by rw[hfl];rw[hsz]at hl;omega)
         have e1:ix.o+i*ix.sz+l=ix.o+off*j.size+((i-off)*j.size+l):=by
          have:i*ix.sz=off*ix.sz+(i-off)*ix.sz:=by rw[←Nat.add_mul];congr 1;omega
          rw[this,hsz];omega
         rw[e1,hin,←hg,List.getElem?_eq_getElem]
        ·rw[List.getElem?_append_right (by simp at *;omega),List.getElem?_drop]at he
         simp only[List.length_append,hl1]at he
         rw[show off+(xs.take len).length+(i-(off+(xs.take len).length))=i by omega]at he
         exact old he (.inr (by omega))
     ·cases hsp
    ·cases h
   ·cases h
 ·cases h
def CallTo(P:Program)(f:FuncId)(args:Array Value)(w:World)(r:Value)(w':World):Prop:=
 ∀cs,∃fr:Frame,fr.fn=f∧fr.leaving P w' (.returned r)∧Steps P (lone (Frame.enter P f args .normal) cs w) (lone fr cs w')
def RoundTo(P:Program)(l:Nat)(fn:FuncId)(tmps:Array Value)(as bd:Code)(w:World)(r:Value)(w':World):Prop:=
 ∀(c:Frame) (cs:List Frame),Steps P (lone (Frame.round l fn tmps as bd .normal) (c::cs) w) (lone (c.finish r) cs w')
def Enters(P:Program)(f:FuncId):Prop:=∀args w,(callFunc f args).run P w=.ok (.enter f args) w
def OpTo(P:Program)(ρ:Operand→Value)(o:Oper)(w:World)(v:Value)(w':World):Prop:=
 (execOp ρ o).run P w=.ok (.value v) w'∨((execOp ρ o).run P w=.ok .skip w'∧v=undef)∨
 (∃f args,(execOp ρ o).run P w=.ok (.enter f args) w∧CallTo P f args w v w')∨
 (∃l fn tmps as bd,(execOp ρ o).run P w=.ok (.round l fn tmps as bd) w∧RoundTo P l fn tmps as bd w v w')
def Fok(F:Fset)(w:World):Prop:=∀b o,F b o→∃v,w.cell? ⟨b,o,none⟩=some v
structure PExt(F:Fset)(w:World)(F':Fset)(w':World):Prop where
 fok:Fok F' w'
 fm:∀b o,F b o→F' b o
 size:w.heap.size≤w'.heap.size
 fnew:∀b o,F' b o→F b o∨w.heap.size≤b
 frame:∀b,b<w.heap.size→w'.heap[b]?=w.heap[b]?
 os:w'.os=w.os
 output:w'.output=w.output
 tape:w'.tape=w.tape
def PureOk(P:Program)(f:FuncId)(args:List SV)(r:SV):Prop:=
 Enters P f∧∀(F:Fset) (w:World) (vals:List Value),Fok F w→VRs noI F w args vals→∃x F' w',CallTo P f vals.toArray w x w'∧VR noI F' w' r x∧PExt F w F' w'
def oneI(id:Nat)(ix:Ix):IM:=fun k=>if k=id then some ix else none
def FreshOk(P:Program)(f:FuncId)(args:List SV)(es:List SV)(sz off len:Nat)(cap:Option Nat):Prop:=
 Enters P f∧∀(F:Fset) (w:World) (vals:List Value),Fok F w→VRs noI F w args vals→∃x F' w' ix,CallTo P f vals.toArray w x w'∧VR (oneI 0 ix) F' w' (.osl 0 sz off len cap) x∧RowAt noI F' w' ix es true∧w.heap.size≤ix.b∧PExt F w F' w'
def InOk(P:Program)(f:FuncId)(args:List SV)(S:Zt)(r:SV)(S':Zt):Prop:=
 Enters P f∧∀(ι:IM) (F:Fset) (w:World) (vals:List Value),Rel ι F S w→VRs ι F w args vals→∃x ι' F' w',CallTo P f vals.toArray w x w'∧VR ι' F' w' r x∧Rel ι' F' S' w'∧Ext ι F S w ι' F' S' w'
def RoundOk(P:Program)(l:Nat)(args:List SV)(S:Zt)(r:SV)(S':Zt):Prop:=
 ∀(ι:IM) (F:Fset) (w:World) (vals:List Value) (ix:Ix),Rel ι F S w→ι l=some ix→VRs ι F w args vals→∃fn tmps as bd x ι' F' w',(Instr.yield ix.b vals.toArray).run P w=.ok (.round ix.b fn tmps as bd) w∧
  RoundTo P ix.b fn tmps as bd w x w'∧VR ι' F' w' r x∧Rel ι' F' S' w'∧Ext ι F S w ι' F' S' w'
def CallSpec(P:Program)(cfg:Cfg)(call:CallT):Prop:=∀g args S r S',call g args S=some (r,S')→match cfg.mode g with
 |.inpl=>InOk P g args S r S'
 |.pure=>∃args',args.mapM (frz S dS)=some args'∧PureOk P g args' r∧S'=sealS S (args.flatMap (refs S dS))
 |.fresh=>∃args',args.mapM (frz S dS)=some args'∧((PureOk P g args' r∧S'=sealS S (args.flatMap (refs S dS)))∨
   ∃es sz off len cap,FreshOk P g args' es sz off len cap∧r=.osl S.length sz off len cap∧S'=sealS S (args.flatMap (refs S dS))++[.cells es true])
def RndSpec(P:Program)(rnd:Nat→List SV→Zt→Option (SV×Zt)):Prop:=∀l args S r S',rnd l args S=some (r,S')→RoundOk P l args S r S'
theorem PExt.up{ι:IM}{F F':Fset}{w w':World}(h:PExt F w F' w')(hf:Fok F w):Up ι F w ι F' w':=
 ⟨fun _ _ h=>h,h.fm,fun b o hb=>by obtain⟨v,hv⟩:=hf _ _ hb;exact cell_of_heap (h.frame _ (cell_lt hv))⟩
theorem Rel.quiet{ι:IM}{F F':Fset}{S:Zt}{w w':World}(h:Rel ι F S w)(q:PExt F w F' w'):Rel ι F' S w':=by
 have u:Up ι F w ι F' w':=q.up h.fok
 refine⟨h.dom,fun id ix es lv hi hr=>?_,fun id ix env ps as bd st pe hi hr=>?_,h.inj,q.fok⟩
 ·have hr0:=h.row _ _ _ _ hi hr
  have hb:ix.b<w.heap.size:=h.blkLt hi ⟨_,hr,by simp⟩
  have heq:=q.frame _ hb
  refine⟨hr0.pos,fun i e he=>(hr0.at_ i e he).up u (fun j _=>cell_of_heap heq),by rw[heq];exact hr0.blk,fun e o hf=>?_,fun e j hj=>q.fm _ _ (hr0.kept e j hj),by rw[heq];exact hr0.cap⟩
  rcases q.fnew _ _ hf with h1|h1
  ·exact hr0.free e o h1
  ·omega
 ·obtain⟨L,D,h1,h2,h3,h4,h5,h6,h7,h8,h9⟩:=h.loop _ _ _ _ _ _ _ _ hi hr
  exact⟨L,D,(q.frame _ (Array.getElem?_eq_some_iff.1 h1).1).trans h1,h2.up u,h3,h4,h5,h6,h7,h8,(q.frame _ (Array.getElem?_eq_some_iff.1 h9).1).trans h9⟩
theorem PExt.toQ{ι:IM}{F F':Fset}{w w':World}(h:PExt F w F' w')(hf:Fok F w)(lo hi:Nat):QExt ι F w ι F' w' lo hi:=
 ⟨h.up hf,h.size,h.fnew,fun _ _ h=>.inl h,h.frame,h.os,h.output,h.tape⟩
theorem refs_lt(S:Zt):∀(n:Nat) {v v':SV},frz S n v=some v'→∀id∈refs S n v,id<S.length:=by
 intro n
 induction n with
 |zero=>intro v v' h;cases h
 |succ n ih=>
  intro v v' h id hid
  have all:∀(cs cs':List SV),cs.mapM (frz S n)=some cs'→∀id∈cs.flatMap (refs S n),id<S.length:=by
   intro cs
   induction cs with
   |nil=>intro cs' _ id hid;simp at hid
   |cons c r ihr=>
    intro cs' hm id hid
    rw[List.mapM_cons]at hm
    simp only[Option.bind_eq_bind,Option.bind_eq_some_iff,Option.pure_def,Option.some.injEq]at hm
    obtain⟨y,hy,zs,hz,rfl⟩:=hm
    rw[List.flatMap_cons,List.mem_append]at hid
    exact hid.elim (ih hy id) (ihr zs hz id)
  cases v with
  |osl k sz off len cap=>
   simp only[frz]at h
   split at h
   ·rename_i es lv hr
    split at h
    ·rw[Option.map_eq_some_iff]at h
     obtain⟨xs,hm,rfl⟩:=h
     simp only[refs,hr,List.mem_cons]at hid
     rcases hid with rfl|hid
     ·exact(List.getElem?_eq_some_iff.1 hr).1
     ·exact all _ _ hm id hid
    ·cases h
   ·cases h
  |optr k j off=>
   simp only[frz]at h
   split at h
   ·rename_i es lv hr
    split at h
    ·rw[Option.bind_eq_some_iff]at h
     obtain⟨e,he,h⟩:=h
     rw[Option.map_eq_some_iff]at h
     obtain⟨e',hfe,rfl⟩:=h
     simp only[refs,hr,he,List.mem_cons]at hid
     rcases hid with rfl|hid
     ·exact(List.getElem?_eq_some_iff.1 hr).1
     ·exact ih hfe id hid
    ·cases h
   ·cases h
  |agg cs=>
   simp only[frz,Option.map_eq_some_iff]at h
   obtain⟨cs',hm,rfl⟩:=h
   exact all _ _ hm id (by simpa[refs]using hid)
  |tup cs=>
   simp only[frz,Option.map_eq_some_iff]at h
   obtain⟨cs',hm,rfl⟩:=h
   exact all _ _ hm id (by simpa[refs]using hid)
  |iface t x=>
   simp only[frz,Option.map_eq_some_iff]at h
   obtain⟨x',hm,rfl⟩:=h
   exact ih hm id (by simpa[refs]using hid)
  |fn f p q=>
   simp only[frz,Option.map_eq_some_iff,Option.bind_eq_some_iff]at h
   obtain⟨p',hp,q',hq,rfl⟩:=h
   simp only[refs,List.mem_append]at hid
   exact hid.elim (all _ _ hp id) (all _ _ hq id)
  |yld l=>simp only[frz]at h;cases h
  |int k m=>simp[refs]at hid
  |bool k=>simp[refs]at hid
  |str k=>simp[refs]at hid
  |nilp=>simp[refs]at hid
  |nilf=>simp[refs]at hid
  |nili=>simp[refs]at hid
  |vsl es c=>simp[refs]at hid
  |vptr e=>simp[refs]at hid
theorem frz_sealed{ι:IM}{F:Fset}{S S' Sx:Zt}{w:World}{args args':List SV}{vals:List Value}(hR:Rel ι F Sx w)(hS:S'=sealS S (args.flatMap (refs S dS)))(hsub:Sub S' Sx)(hm:args.mapM (frz S dS)=some args')(hv:VRs ι F w args vals) :
  VRs noI F w args' vals:=by
 have h1:Sub S S':=by rw[hS];exact sealS_sub _ _
 refine mapM_VRs hm hv fun e he e' v hfe hve=>frz_ok hR (h1.trans hsub) dS (fun id hid es=>?_) hfe hve
 intro hx
 have hid':id∈args.flatMap (refs S dS):=List.mem_flatMap.2 ⟨e,he,hid⟩
 have hns:=sealS_sealed _ S id hid'
 rw[←hS]at hns
 have hlt:id<S'.length:=Nat.lt_of_lt_of_le (refs_lt S dS hfe id hid) h1.len
 obtain⟨r',k1,k2⟩:=hsub.row id _ (List.getElem?_eq_getElem hlt)
 rw[hx]at k1
 cases k1
 rcases k2 with k2|⟨es2,lv2,k3,k4⟩
 ·exact hns es (by rw[List.getElem?_eq_getElem hlt,k2])
 ·cases k4
theorem RowAt.lift{ι:IM}{F:Fset}{w:World}{ix:Ix}{es:List SV}{lv:Bool}(h:RowAt noI F w ix es lv):RowAt ι F w ix es lv:=
 ⟨h.pos,fun i e he=>by obtain⟨x,h1,h2,h3⟩:=h.at_ i e he;exact⟨x,h1.pure,h2,h3⟩,h.blk,h.free,h.kept,h.cap⟩
theorem Rel.adopt{ι:IM}{F F':Fset}{S:Zt}{w w':World}(h:Rel ι F S w)(q:PExt F w F' w'){id:Nat}{es:List SV}{lv:Bool}{ix:Ix}(hid:ι id=none)(hS:S[id]?=some (.cells es lv))(hrow:RowAt noI F' w' ix es true)(hb:w.heap.size≤ix.b) :
  ∃F'',Rel (ι.put id ix) F'' S w'∧QExt ι F w (ι.put id ix) F'' w' id (id+1)∧Up (oneI 0 ix) F' w' (oneI 0 ix) F'' w':=by
 have hq:=h.quiet q
 have ul:Up ι F w ι F' w':=q.up h.fok
 refine⟨fun b o=>F' b o∨(lv=false∧b=ix.b∧ix.o≤o∧o<ix.o+es.length*ix.sz),?_⟩
 generalize hF:(fun b o=>F' b o∨(lv=false∧b=ix.b∧ix.o≤o∧o<ix.o+es.length*ix.sz))=F''
 have hF1:∀b o,F' b o→F'' b o:=fun b o hf=>by rw[←hF];exact .inl hf
 have hF2:∀b o,F'' b o→F' b o∨(lv=false∧b=ix.b∧ix.o≤o∧o<ix.o+es.length*ix.sz):=fun b o hf=>by rw[←hF]at hf;exact hf
 have u1:Up ι F' w' (ι.put id ix) F'' w':=⟨fun k jx hk=>by unfold IM.put;rw[if_neg (fun e=>by rw[e,hid]at hk;cases hk)];exact hk,hF1,fun _ _ _=>rfl⟩
 have lta:∀k jx,ι k=some jx→alive S k→jx.b<w.heap.size:=fun k jx hk ha=>h.blkLt hk ha
 refine⟨⟨?_,?_,?_,?_,?_⟩,⟨ul.trans u1,q.size,?_,?_,q.frame,q.os,q.output,q.tape⟩,⟨fun _ _ h=>h,hF1,fun _ _ _=>rfl⟩⟩
 ·intro k jx hk
  unfold IM.put at hk
  split at hk
  ·rename_i e;subst e;exact(List.getElem?_eq_some_iff.1 hS).1
  ·exact h.dom _ _ hk
 ·intro k jx es' lv' hk hr
  unfold IM.put at hk
  split at hk
  ·rename_i e
   subst e;cases hk
   rw[hS]at hr;cases hr
   have hl:=hrow.lift (ι:=ι)
   obtain⟨c,t,fr,h1,h2,h3⟩:=hl.blk
   refine⟨hl.pos,fun i e he=>(hl.at_ i e he).up u1 (fun _ _=>rfl),⟨c,t,fr,h1,h2,fun _=>h3 rfl⟩,fun e o hf=>?_,fun e j hj=>?_,hl.cap⟩
   ·rcases hF2 _ _ hf with h4|⟨h4,_⟩
    ·exact hl.free rfl o h4
    ·rw[e]at h4;cases h4
   ·rw[←hF];exact .inr ⟨e,rfl,by omega,by omega⟩
  ·have hr0:=hq.row _ _ _ _ hk hr
   have hlt:=lta _ _ hk ⟨_,hr,by simp⟩
   refine⟨hr0.pos,fun i e he=>(hr0.at_ i e he).up u1 (fun _ _=>rfl),hr0.blk,fun e o hf=>?_,fun e j hj=>hF1 _ _ (hr0.kept e j hj),hr0.cap⟩
   rcases hF2 _ _ hf with h4|⟨_,h4,_⟩
   ·exact hr0.free e o h4
   ·omega
 ·intro k jx env ps as bd st pe hk hr
  unfold IM.put at hk
  split at hk
  ·rename_i e;subst e;rw[hS]at hr;cases hr
  ·obtain⟨L,D,h1,h2,h3⟩:=hq.loop _ _ _ _ _ _ _ _ hk hr
   exact⟨L,D,h1,h2.up u1,h3⟩
 ·intro k k' jx jx' hk hk' ha ha' hbb
  unfold IM.put at hk hk'
  split at hk<;>split at hk'
  ·rename_i e e';rw[e,e']
  ·cases hk;have:=lta _ _ hk' ha';omega
  ·cases hk';have:=lta _ _ hk ha;omega
  ·exact h.inj _ _ _ _ hk hk' ha ha' hbb
 ·intro b o hf
  rcases hF2 _ _ hf with h4|⟨_,rfl,h5,h6⟩
  ·exact q.fok _ _ h4
  ·obtain⟨c,t,fr,h1,h2,h3⟩:=hrow.blk
   refine⟨c[o]'(by omega),?_⟩
   simp only[World.cell?,h1]
   simp
 ·intro b o hf
  rcases hF2 _ _ hf with h4|⟨_,rfl,_⟩
  ·exact q.fnew _ _ h4
  ·exact .inr hb
 ·intro k jx hk
  unfold IM.put at hk
  split at hk
  ·rename_i e;cases hk;exact .inr ⟨by omega,by omega,hb⟩
  ·exact .inl hk
theorem run_call{P:Program}{c:Call}{ρ:Operand→Value}{t:TypeId}{f:Operand}{g:FuncId}{x y:Array Value}(hc:c.callee=.value f)(hf:ρ f=.func (.func g) x y)(he:Enters P g)(w:World) :
  ((do let d←resolve ρ c t;invoke d.target d.args:Sem Next)).run P w=.ok (.enter g (x++c.args.map ρ++y)) w:=by
 have hr:∀w,(resolve ρ c t).run P w=.ok { target:=.fn (.func g) y,args:=x++c.args.map ρ } w:=fun w=>by
  unfold resolve
  simp only[hc,hf]
  rfl
 simp only[Sem.run_bind,hr,Result.andThen_ok,invoke]
 exact he _ _
theorem opQ_ok{P:Program}{cfg:Cfg}(hT:TyAll P cfg){call:CallT}{rnd:Nat→List SV→Zt→Option (SV×Zt)}(hcall:CallSpec P cfg call){ι:IM}{F:Fset}{S S' Sx:Zt}{w:World}{env:List SV}{a:Act}(he:VRs ι F w env a.tmps.toList){o:Oper}{v:SV}
  (hR:Rel ι F Sx w) (hq:effS o.op=false) (hqc:quietCall cfg env o.op=true) (h:opS cfg call rnd env S o.op=some (v,S')) (hsub:Sub S' Sx) (hfree:∀id,S.length≤id→id<S'.length→ι id=none) :
  Sub S S'∧∃x ι' F' w',OpTo P a.eval o w x w'∧VR ι' F' w' v x∧Rel ι' F' Sx w'∧QExt ι F w ι' F' w' S.length S'.length:=by
 have timeless:∀{v},opT cfg env o.op=some v→S'=S→∃x ι' F' w',OpTo P a.eval o w x w'∧VR ι' F' w' v x∧Rel ι' F' Sx w'∧QExt ι F w ι' F' w' S.length S'.length:=by
  intro v ht hS
  subst hS
  obtain⟨x,hrun,hv⟩:=opT_ok hT he ht
  exact⟨x,ι,F,w,.inl (hrun w),hv,hR,QExt.refl _ _ _ _ _⟩
 have tl:(opT cfg env o.op).map (fun v=>(v,S))=some (v,S')→Sub S S'∧∃x ι' F' w',OpTo P a.eval o w x w'∧VR ι' F' w' v x∧Rel ι' F' Sx w'∧QExt ι F w ι' F' w' S.length S'.length:=by
  intro ht
  rw[Option.map_eq_some_iff]at ht
  obtain⟨v',ht,e⟩:=ht
  cases e
  exact⟨.refl _,timeless ht rfl⟩
 have fresh:∀(es:List SV) (sz cp:Nat) (c:Array Value) (t:TypeId),S'=S++[.cells es true]→0<sz→es.length*sz≤c.size→cp*sz≤c.size→(∀(i:Nat) (e:SV),es[i]?=some e→∃x,VR ι F w e x∧x.cells.size=sz∧∀j,j<sz→c[i*sz+j]?=x.cells[j]?)→
   ∃ι' F',Rel ι' F' Sx (w.alloc (.cells c t))∧QExt ι F w ι' F' (w.alloc (.cells c t)) S.length S'.length∧ι' S.length=some ⟨w.heap.size,0,sz,cp⟩:=by
  intro es sz cp c t hS hsz hc hcp hes
  have hnew:S'[S.length]?=some (.cells es true):=by rw[hS];simp
  obtain⟨lv',hx,-⟩:=hsub.cells hnew
  have hn:=hfree S.length (Nat.le_refl _) (by rw[hS];simp)
  obtain⟨ι',F',h1,h2,h3⟩:=hR.allocQ (t:=t) (cp:=cp) hn hx hsz hc hcp hes
  refine⟨ι',F',h1,?_,h3⟩
  have:S'.length=S.length+1:=by rw[hS];simp
  rw[this];exact h2
 obtain⟨dst,op,type,pos,after,guard⟩:=o
 simp only[]at h hq hqc tl timeless ⊢
 cases op
 case alloc t=>
  simp only[opS,Option.bind_eq_some_iff]at h
  obtain⟨i,hi,h⟩:=h
  split at h
  ·cases h
  ·rename_i hz
   cases h
   have hk:=hT.ty _ _ hi
   obtain⟨d,hd,hs,hb,z,hzz,hzv⟩:=hk.info
   have hzn:z.cells.size=i.zero.n:=(hzv ι F w).n.symm
   obtain⟨ι',F',h1,h2,h3⟩:=fresh [i.zero] i.zero.n 1 z.cells t rfl (Nat.pos_of_ne_zero hz) (by simp;omega) (by omega) (fun k e he=>by
    cases k with
    |zero=>simp at he;subst he;exact⟨z,hzv ι F w,hzn,fun j hj=>by simp⟩
    |succ k=>simp at he)
   refine⟨Sub.append _ _,_,ι',F',_,.inl ?_,⟨_,h3,rfl⟩,h1,h2⟩
   have hzr:(zeroValue t).run P w=.ok z w:=by simp[zeroValue,typeInfo,hd,hzz]
   simp only[execOp,Instr.alloc,Sem.run_bind,hzr,Result.andThen_ok,newVar,run_newRowS,Sem.run_pure,Nat.zero_mul,Nat.add_zero]
 case box t x=>
  simp only[opS,Option.bind_eq_some_iff]at h
  obtain⟨i,hi,u,hu,h⟩:=h
  split at h
  ·cases h
  ·rename_i hz
   cases h
   have hv:=evalS_ok he hu
   obtain⟨ι',F',h1,h2,h3⟩:=fresh [u] u.n 1 (a.eval x).cells t rfl (Nat.pos_of_ne_zero hz) (by simp[hv.n]) (by simp[hv.n]) (fun k e he=>by
    cases k with
    |zero=>simp at he;subst he;exact⟨_,hv,hv.n.symm,fun j hj=>by simp⟩
    |succ k=>simp at he)
   refine⟨Sub.append _ _,_,ι',F',_,.inl ?_,⟨_,h3,rfl⟩,h1,h2⟩
   simp only[execOp,Instr.box,Sem.run_bind,Result.andThen_ok,newVar,run_newRowS,Sem.run_pure,Nat.zero_mul,Nat.add_zero]
 case buildSlice t len ps=>
  simp only[opS,Option.bind_eq_some_iff]at h
  obtain⟨e,het,j,hj,h⟩:=h
  split at h
  ·cases h
  ·rename_i hc
   simp only[not_or,Decidable.not_not]at hc
   obtain⟨hc1,hc2,hc3⟩:=hc
   simp only[Option.bind_eq_some_iff,Option.map_eq_some_iff]at h
   obtain⟨vs,hvs,es,hes,e'⟩:=h
   cases e'
   obtain⟨e1,e2⟩:=partsS_ok he hvs
   obtain⟨cs,hrun,hcs⟩:=run_buildSlice hT (isZ_ok hT het) hj hc1 (by omega) hc3 (qs:=ps.map fun (i,x)=>(i,a.eval x)) (by simpa using e1) (by simpa using e2) hes
   have hlen:es.length=len:=by
    have key:∀(vs:List (Nat×SV)) (e0 e1:List SV),litS j.size e0 vs=some e1→e1.length=e0.length:=by
     intro vs
     induction vs with
     |nil=>intro e0 e1 h;simp only[litS]at h;cases h;rfl
     |cons p r ih=>
      obtain⟨i,v⟩:=p
      intro e0 e1 h
      simp only[litS]at h
      split at h
      ·have:=ih _ _ h;simpa using this
      ·cases h
    have:=key _ _ _ hes;simpa using this
   obtain⟨ι',F',h1,h2,h3⟩:=fresh es j.size len cs e rfl (Nat.pos_of_ne_zero hc1) (by rw[hcs.1];exact Nat.le_refl _) (by rw[hcs.1,hlen];exact Nat.le_refl _) hcs.2
   refine⟨Sub.append _ _,.slice (some ⟨w.heap.size,0,none⟩) len len,ι',F',_,.inl ?_,⟨_,_,_,_,h3,rfl,rfl,Nat.le_refl _,(fun k hk=>by cases hk;rfl),fun _=>⟨rfl,by simp,by simp⟩⟩,h1,h2⟩
   simp only[execOp,Sem.run_bind,hrun,Result.andThen_ok,Sem.run_pure]
 case makeSlice t l c=>
  simp only[opS,Option.bind_eq_some_iff]at h
  obtain⟨e,het,j,hj,l',⟨vl,hl,hl'⟩,c',⟨vc,hc0,hc'⟩,h⟩:=h
  split at h
  ·cases h
  ·rename_i hc
   simp only[not_or,Decidable.not_not]at hc
   obtain⟨hc1,hc2,hc3,hc4,hc5⟩:=hc
   cases h
   obtain⟨kl,hkl⟩:=natS_ok (evalS_ok he hl) hl'
   obtain⟨kc,hkc⟩:=natS_ok (evalS_ok he hc0) hc'
   obtain⟨cs,hrun,hcs⟩:=run_makeSlice hT (isZ_ok hT het) hj (kl:=kl) (kc:=kc) hc1 (show l'≤c' by omega) (show c'≤roomS by omega) (show c'*j.bytes≤roomS by omega) hc5 ι F w
   obtain⟨ι',F',h1,h2,h3⟩:=fresh (List.replicate c' j.zero) j.size c' cs e rfl (Nat.pos_of_ne_zero hc1) (by rw[hcs.1];exact Nat.le_refl _) (by rw[hcs.1];simp) hcs.2
   refine⟨Sub.append _ _,.slice (some ⟨w.heap.size,0,none⟩) l' c',ι',F',_,.inl ?_,⟨_,_,_,_,h3,rfl,rfl,by omega,(fun k hk=>by cases hk;rfl),fun _=>⟨rfl,by simp,by simp⟩⟩,h1,h2⟩
   simp only[execOp,hkl,hkc,Sem.run_bind,hrun,Result.andThen_ok,Sem.run_pure]
 case load t x=>
  simp only[opS,Option.bind_eq_some_iff,Option.map_eq_some_iff]at h
  obtain⟨i,hi,p,hp,u,hu,e⟩:=h
  cases e
  obtain⟨y,hy,hv⟩:=loadS_ok hT hi hR hsub (evalS_ok he hp) hu
  refine⟨.refl _,y,ι,F,w,.inl ?_,hv,hR,QExt.refl _ _ _ _ _⟩
  simp only[execOp,Sem.run_bind,hy,Result.andThen_ok,Sem.run_pure]
 case call c=>
  obtain⟨cl,cargs,ats⟩:=c
  cases cl with
  |builtin b=>cases b<;>first|exact tl h|(exact absurd (show true=false from hq) (by simp))
  |invoke r m=>simp only[opS]at h;cases h
  |value f=>
   simp only[opS]at h
   rw[Option.bind_eq_some_iff]at h
   obtain⟨args,hargs,h⟩:=h
   split at h
   ·rename_i g x y hf
    have hfe:=evalS_ok he hf
    obtain⟨X,Y,hfv,hX,hY⟩:=hfe
    have hA:=evalsS_ok he hargs
    have hall:VRs ι F w (x++args++y) (X.toList++(cargs.toList.map a.eval)++Y.toList):=(hX.append hA).append hY
    have harr:(X.toList++(cargs.toList.map a.eval)++Y.toList).toArray=X++cargs.map a.eval++Y:=by simp
    have hm:cfg.mode g≠.inpl:=by
     simp only[quietCall,hf]at hqc
     simpa using hqc
    have hs:=hcall _ _ _ _ _ h
    have pure:∀args',(x++args++y).mapM (frz S dS)=some args'→PureOk P g args' v→S'=sealS S ((x++args++y).flatMap (refs S dS))→Sub S S'∧∃x ι' F' w',OpTo P a.eval ⟨dst,.call ⟨.value f,cargs,ats⟩,type,pos,after,guard⟩ w x w'∧VR ι' F' w' v x∧Rel ι' F' Sx w'∧QExt ι F w ι' F' w' S.length S'.length:=by
     intro args' hm' hp hS
     have hz:=frz_sealed hR hS hsub hm' hall
     obtain⟨hen,hp⟩:=hp
     obtain⟨r,F',w',hcl,hv,hext⟩:=hp F w _ hR.fok hz
     rw[harr]at hcl
     refine⟨by rw[hS];exact sealS_sub _ _,r,ι,F',w',.inr (.inr (.inl ⟨g,_,?_,hcl⟩)),hv.pure,hR.quiet hext,hext.toQ hR.fok _ _⟩
     simp only[execOp]
     exact run_call rfl hfv hen w
    split at hs
    ·rename_i hmode;exact absurd hmode hm
    ·obtain⟨args',h1,h2,h3⟩:=hs
     exact pure args' h1 h2 h3
    ·obtain⟨args',h1,h2|⟨es,sz,off,len,cap,h2,h3,h4⟩⟩:=hs
     ·exact pure args' h1 h2.1 h2.2
     ·subst h3
      have hS0:Sub (sealS S ((x++args++y).flatMap (refs S dS))) S':=by rw[h4];exact Sub.append _ _
      have hz:=frz_sealed hR rfl (hS0.trans hsub) h1 hall
      obtain⟨hen,hp⟩:=h2
      obtain⟨r,F',w',ix,hcl,hv,hrow,hb,hext⟩:=hp F w _ hR.fok hz
      rw[harr]at hcl
      have hlen:S'.length=S.length+1:=by rw[h4];simp[sealS_len]
      have hnew:S'[S.length]?=some (.cells es true):=by
       rw[h4,List.getElem?_append_right (by rw[sealS_len];exact Nat.le_refl _),sealS_len];simp
      obtain⟨lv',hx,-⟩:=hsub.cells hnew
      obtain⟨F'',hR',hQ,hup⟩:=hR.adopt hext (hfree S.length (Nat.le_refl _) (by omega)) hx hrow hb
      refine⟨(sealS_sub _ _).trans hS0,r,_,F'',w',.inr (.inr (.inl ⟨g,_,?_,hcl⟩)),?_,hR',by rw[hlen];exact hQ⟩
      ·simp only[execOp]
       exact run_call rfl hfv hen w
      ·obtain⟨ix',c',b',o',k1,k2,k3,k4,k5,k6⟩:=hv
       simp[oneI]at k1
       subst k1
       exact⟨ix,c',b',o',by simp[IM.put],k2,k3,k4,k5,k6⟩
   ·rename_i l hf
    simp[quietCall,hf]at hqc
   ·cases h
 case store=>simp[effS]at hq
 all_goals (simp only[opS]at h;exact tl h)
theorem not_int{P:Program}{cfg:Cfg}(hT:TyAll P cfg){u e:TypeId}(h:isZ cfg u=some e):∃d,P.underlying u=some d∧∀k,d≠.int k:=
 ⟨_,isZ_ok hT h,by intro k hk;cases hk⟩
theorem run_yield{P:Program}{c:Call}{ρ:Operand→Value}{t:TypeId}{f:Operand}{l:Nat}{r:Next}(hc:c.callee=.value f)(hf:ρ f=.func (.yield l) #[] #[])(w:World)(h:(Instr.yield l (c.args.map ρ)).run P w=.ok r w) :
  ((do let d←resolve ρ c t;invoke d.target d.args:Sem Next)).run P w=.ok r w:=by
 have hr:∀w,(resolve ρ c t).run P w=.ok { target:=.fn (.yield l) #[],args:=c.args.map ρ } w:=fun w=>by
  unfold resolve
  simp only[hc,hf]
  simp[Deferred.ofValue]
 simp only[Sem.run_bind,hr,Result.andThen_ok,invoke,h]
theorem opQ_sub{P:Program}{cfg:Cfg}{call:CallT}{rnd:Nat→List SV→Zt→Option (SV×Zt)}(hcall:CallSpec P cfg call){S S':Zt}{env:List SV}{o:Oper}{v:SV}
  (hq:effS o.op=false) (hqc:quietCall cfg env o.op=true) (h:opS cfg call rnd env S o.op=some (v,S')):Sub S S':=by
 obtain⟨dst,op,type,pos,after,guard⟩:=o
 simp only[]at h hq hqc
 have tl:(opT cfg env op).map (fun v=>(v,S))=some (v,S')→Sub S S':=by
  intro ht
  rw[Option.map_eq_some_iff]at ht
  obtain⟨v',ht,e⟩:=ht
  cases e
  exact .refl _
 cases op
 case alloc t=>
  simp only[opS,Option.bind_eq_some_iff]at h
  obtain⟨i,hi,h⟩:=h
  split at h
  ·cases h
  ·cases h;exact Sub.append _ _
 case box t x=>
  simp only[opS,Option.bind_eq_some_iff]at h
  obtain⟨i,hi,u,hu,h⟩:=h
  split at h
  ·cases h
  ·cases h;exact Sub.append _ _
 case buildSlice t len ps=>
  simp only[opS,Option.bind_eq_some_iff]at h
  obtain⟨e,het,j,hj,h⟩:=h
  split at h
  ·cases h
  ·simp only[Option.bind_eq_some_iff,Option.map_eq_some_iff]at h
   obtain⟨vs,hvs,es,hes,e'⟩:=h
   cases e';exact Sub.append _ _
 case makeSlice t l c=>
  simp only[opS,Option.bind_eq_some_iff]at h
  obtain⟨e,het,j,hj,l',⟨vl,hl,hl'⟩,c',⟨vc,hc0,hc'⟩,h⟩:=h
  split at h
  ·cases h
  ·cases h;exact Sub.append _ _
 case load t x=>
  simp only[opS,Option.bind_eq_some_iff,Option.map_eq_some_iff]at h
  obtain⟨i,hi,p,hp,u,hu,e⟩:=h
  cases e;exact .refl _
 case call c=>
  obtain⟨cl,cargs,ats⟩:=c
  cases cl with
  |builtin b=>cases b<;>first|exact tl h|(exact absurd (show true=false from hq) (by simp))
  |invoke r m=>simp only[opS]at h;cases h
  |value f=>
   simp only[opS]at h
   rw[Option.bind_eq_some_iff]at h
   obtain⟨args,hargs,h⟩:=h
   split at h
   ·rename_i g x y hf
    have hm:cfg.mode g≠.inpl:=by
     simp only[quietCall,hf]at hqc
     simpa using hqc
    have hs:=hcall _ _ _ _ _ h
    split at hs
    ·rename_i hmode;exact absurd hmode hm
    ·obtain⟨args',h1,h2,h3⟩:=hs
     rw[h3];exact sealS_sub _ _
    ·obtain⟨args',h1,⟨-,h2⟩|⟨es,sz,off,len,cap,-,-,h4⟩⟩:=hs
     ·rw[h2];exact sealS_sub _ _
     ·rw[h4];exact(sealS_sub _ _).trans (Sub.append _ _)
   ·rename_i l hf
    simp[quietCall,hf]at hqc
   ·cases h
 case store=>simp[effS]at hq
 all_goals (simp only[opS]at h;exact tl h)
theorem opS_ok{P:Program}{cfg:Cfg}(hT:TyAll P cfg){call:CallT}{rnd:Nat→List SV→Zt→Option (SV×Zt)}(hcall:CallSpec P cfg call)(hrnd:RndSpec P rnd){ι:IM}{F:Fset}{S S':Zt}{w:World}{env:List SV}{a:Act}(he:VRs ι F w env a.tmps.toList){o:Oper}{v:SV}
  (hR:Rel ι F S w) (h:opS cfg call rnd env S o.op=some (v,S')):∃x ι' F' w',OpTo P a.eval o w x w'∧VR ι' F' w' v x∧Rel ι' F' S' w'∧Ext ι F S w ι' F' S' w':=by
 by_cases hquiet:effS o.op=false∧quietCall cfg env o.op=true
 ·obtain⟨hq,hqc⟩:=hquiet
  have hs:Sub S S':=opQ_sub hcall hq hqc h
  obtain⟨h1,h2⟩:=hR.sub hs
  have u:=h2.up
  obtain⟨-,x,ι',F',w',k1,k2,k3,k4⟩:=opQ_ok hT hcall (he.up u) h1 hq hqc h (Sub.refl _) (fun id h3 _=>by
   cases hi:ι id with
   |none=>rfl
   |some ix=>have:=hR.dom _ _ hi;omega)
  exact⟨x,ι',F',w',k1,k2,k3,h2.quiet k4⟩
 ·obtain⟨dst,op,type,pos,after,guard⟩:=o
  simp only[]at h hquiet ⊢
  cases op
  case store t p x=>
   simp only[opS,Option.bind_eq_some_iff,Option.map_eq_some_iff]at h
   obtain⟨i,hi,p',hp,v',hv,S1,hst,e⟩:=h
   cases e
   obtain⟨w',hrun,hR',hE⟩:=storeS_ok hT hi hR (evalS_ok he hp) (evalS_ok he hv) hst
   refine⟨undef,ι,F,w',.inr (.inl ⟨?_,rfl⟩),⟨#[],rfl,rfl⟩,hR',hE⟩
   simp only[execOp,Sem.run_bind,hrun,Result.andThen_ok,Sem.run_pure]
  case call c=>
   obtain⟨cl,cargs,ats⟩:=c
   cases cl with
   |invoke r m=>simp only[opS]at h;cases h
   |value f=>
    simp only[opS]at h
    rw[Option.bind_eq_some_iff]at h
    obtain⟨args,hargs,h⟩:=h
    have hA:=evalsS_ok he hargs
    split at h
    ·rename_i g x y hf
     obtain⟨X,Y,hfv,hX,hY⟩:=evalS_ok he hf
     have hall:VRs ι F w (x++args++y) (X.toList++(cargs.toList.map a.eval)++Y.toList):=(hX.append hA).append hY
     have harr:(X.toList++(cargs.toList.map a.eval)++Y.toList).toArray=X++cargs.map a.eval++Y:=by simp
     have hm:cfg.mode g=.inpl:=by
      cases hmode:cfg.mode g with
      |inpl=>rfl
      |pure=>exact absurd ⟨rfl,by simp[quietCall,hf,hmode]⟩ hquiet
      |fresh=>exact absurd ⟨rfl,by simp[quietCall,hf,hmode]⟩ hquiet
     have hs:=hcall _ _ _ _ _ h
     rw[hm]at hs
     obtain⟨hen,hp⟩:=hs
     obtain⟨r,ι',F',w',hcl,hv,hR',hE⟩:=hp ι F w _ hR hall
     rw[harr]at hcl
     refine⟨r,ι',F',w',.inr (.inr (.inl ⟨g,_,?_,hcl⟩)),hv,hR',hE⟩
     simp only[execOp]
     exact run_call rfl hfv hen w
    ·rename_i l hf
     obtain⟨ix,hix,hfv⟩:=evalS_ok he hf
     obtain⟨fn,tmps,as,bd,x,ι',F',w',hy,hrt,hv,hR',hE⟩:=hrnd _ _ _ _ _ h ι F w _ ix hR hix hA
     refine⟨x,ι',F',w',.inr (.inr (.inr ⟨ix.b,fn,tmps,as,bd,?_,hrt⟩)),hv,hR',hE⟩
     simp only[execOp]
     exact run_yield rfl hfv w ((show(cargs.toList.map a.eval).toArray=cargs.map a.eval by rw[←Array.toList_map])▸hy)
    ·cases h
   |builtin b=>
    have hq:effS (.call ⟨.builtin b,cargs,ats⟩)=true:=by
     cases he2:effS (.call ⟨.builtin b,cargs,ats⟩)with
     |true=>rfl
     |false=>exact absurd ⟨he2,rfl⟩ hquiet
    have arr:∀{x y:SV} {vs:List SV},evalsS env cargs.toList=some [x,y]→∃p q,VR ι F w x p∧VR ι F w y q∧(cargs.map a.eval)[0]?=some p∧(cargs.map a.eval)[1]?=some q:=by
     intro x y vs hv
     obtain⟨p,ps,e1,h1,q,qs,e2,h2,e3⟩:=evalsS_ok he hv
     have e0:(cargs.map a.eval).toList=[p,q]:=by rw[Array.toList_map,e1,e2,e3]
     exact⟨p,q,h1,h2,by rw[←Array.getElem?_toList,e0];rfl,by rw[←Array.getElem?_toList,e0];rfl⟩
    have res:∀w,(resolve a.eval ⟨.builtin b,cargs,ats⟩ type).run P w=.ok { target:=.builtin b ats type (cargs.map fun|.const _=>true|_=>false),args:=cargs.map a.eval } w:=fun w=>rfl
    cases b
    case append=>
     simp only[opS,Option.bind_eq_some_iff]at h
     obtain⟨args,hargs,h⟩:=h
     split at h
     ·rename_i t u s x hats
      simp only[Option.bind_eq_some_iff]at h
      obtain⟨e,het,e2,heu,j,hj,h⟩:=h
      split at h
      ·rename_i hzn
       obtain⟨p,q,hp,hq',e0,e1⟩:=arr (vs:=[]) hargs
       obtain⟨y,ι',F',w',hrun,hv,hR',hE⟩:=appendS_ok hT (isZ_ok hT het) (not_int hT heu) hj hzn hR hp hq' h (ts:=ats) (r:=type) (by rw[←Array.getElem?_toList,hats];rfl) (by rw[←Array.getElem?_toList,hats];rfl) e0 e1
       refine⟨y,ι',F',w',.inl ?_,hv,hR',hE⟩
       simp only[execOp,Sem.run_bind,res,Result.andThen_ok,invoke,builtin,hrun,Sem.run_pure]
      ·cases h
     ·cases h
    case copy=>
     simp only[opS,Option.bind_eq_some_iff]at h
     obtain⟨args,hargs,h⟩:=h
     split at h
     ·rename_i t u d s hats
      simp only[Option.bind_eq_some_iff]at h
      obtain⟨e,het,j,hj,h⟩:=h
      obtain⟨p,q,hp,hq',e0,e1⟩:=arr (vs:=[]) hargs
      obtain⟨y,w',hrun,hv,hR',hE⟩:=copyS_ok hT (isZ_ok hT het) hj hR hp hq' h (ts:=ats) (r:=type) (by rw[←Array.getElem?_toList,hats];rfl) e0 e1
      refine⟨y,ι,F,w',.inl ?_,hv,hR',hE⟩
      simp only[execOp,Sem.run_bind,res,Result.andThen_ok,invoke,builtin,hrun,Sem.run_pure]
     ·cases h
    all_goals exact absurd (show false=true from hq) (by simp)
  all_goals exact absurd ⟨rfl,rfl⟩ hquiet
end Go.Sh
namespace Go.Sh
def atr(b:Frame)(a:Act)(todo:List Item):Frame:={ b with tmps:=a.tmps,todo:=todo,defers:=a.defers,mode:=.run }
theorem eval_atr(b:Frame)(a:Act)(todo:List Item):(atr b a todo).eval=a.eval:=by funext x;cases x<;>rfl
section moves
variable {P:Program} {b:Frame} {a:Act} {k:List Item} {cs:List Frame} {w:World}
theorem st_skip:step P (lone (atr b a (.code .skip::k)) cs w)=.next (lone (atr b a k) cs w):=
 step_lone_go (by simp[stepG,stepG.exec,atr])
theorem st_inBlock{id:Nat}:step P (lone (atr b a (.inBlock id::k)) cs w)=.next (lone (atr b a k) cs w):=
 step_lone_go (by simp[stepG,stepG.exec,atr])
theorem st_seq{x y:Code}:step P (lone (atr b a (.code (.seq x y)::k)) cs w)=.next (lone (atr b a (.code x::.code y::k)) cs w):=
 step_lone_go (by simp[stepG,stepG.exec,atr])
theorem st_cond{c:Operand}{x y:Code}{t:Bool}(h:a.eval c=.bool t) :
  step P (lone (atr b a (.code (.cond c x y)::k)) cs w)=.next (lone (atr b a (.code (if t then x else y)::k)) cs w):=
 step_lone_go (by
  have:=congrFun (eval_atr b a (.code (.cond c x y)::k)) c
  simp only[atr]at this
  simp[stepG,stepG.exec,atr,this,h])
theorem st_block{id:Nat}{c:Code}:step P (lone (atr b a (.code (.block id c)::k)) cs w)=.next (lone (atr b a (.code c::.inBlock id::k)) cs w):=
 step_lone_go (by simp[stepG,stepG.exec,atr])
theorem st_loop{c:Code}:step P (lone (atr b a (.code (.loop c)::k)) cs w)=.next (lone (atr b a (.code c::.inLoop c::k)) cs w):=
 step_lone_go (by simp[stepG,stepG.exec,atr])
theorem st_inLoop{c:Code}:step P (lone (atr b a (.inLoop c::k)) cs w)=.next (lone (atr b a (.code c::.inLoop c::k)) cs w):=
 step_lone_go (by simp[stepG,stepG.exec,atr])
theorem st_exit{id:Nat}{k':List Item}(h:exitTo id k=some k'):step P (lone (atr b a (.code (.exit id)::k)) cs w)=.next (lone (atr b a k') cs w):=
 step_lone_go (by simp[stepG,stepG.exec,atr,h])
theorem st_region{id:Nat}{ops:Array Oper}:step P (lone (atr b a (.code (.region id ops false)::k)) cs w)=.next (lone (atr b a (.inRegion ops (List.range ops.size)::k)) cs w):=
 step_lone_go (by simp[stepG,stepG.exec,atr])
theorem st_region_draw{id:Nat}{ops:Array Oper} :
  step P (lone (atr b a (.code (.region id ops true)::k)) cs w) =
   .next (lone (atr b a (.inRegion ops (Region.schedule (P.follows .mixedOrders) ops (w.tape w.drawn (.order b.fn id)))::k)) cs { w with drawn:=w.drawn+1 }):=
 step_lone_go (by simp[stepG,stepG.exec,atr,choose,Sem.run,Question.forced,Question.cut])
theorem st_region_end{ops:Array Oper}:step P (lone (atr b a (.inRegion ops []::k)) cs w)=.next (lone (atr b a k) cs w):=
 step_lone_go (by simp[stepG,stepG.exec,atr])
theorem finish_atr(ops:Array Oper)(i:Nat)(rest:List Nat)(v:Value) :
  (atr b a (.inRegion ops (i::rest)::k)).finish v=atr b (a.put ((ops[i]?).bind (·.dst)) v) (.inRegion ops rest::k):=by
 cases h:(ops[i]?).bind (·.dst)<;>simp[Frame.finish,atr,Act.put,h]
theorem st_op_skip{ops:Array Oper}{i:Nat}{rest:List Nat}(h:((ops[i]?).map (Region.wanted · (yielded ops a.tmps))).getD false=false) :
  step P (lone (atr b a (.inRegion ops (i::rest)::k)) cs w)=.next (lone (atr b (a.put ((ops[i]?).bind (·.dst)) undef) (.inRegion ops rest::k)) cs w):=by
 rw[←finish_atr]
 exact step_lone_go (by
  have h':=h
  simp only[atr]at *
  simp[stepG,stepG.exec,h'])
theorem stG_op{ops:Array Oper}{i:Nat}{rest:List Nat}{o:Oper}(ho:ops[i]?=some o)(hw:Region.wanted o (yielded ops a.tmps)=true)(hd:∀c,o.op≠.defer c) :
  stepG P true { frame:=atr b a (.inRegion ops (i::rest)::k),callers:=cs,status:=.running,dying:=none } w =
   stepG.apply P true (atr b a (.inRegion ops (i::rest)::k)) cs none (execOp a.eval o) w:=by
 have he:=eval_atr b a (.inRegion ops (i::rest)::k)
 simp only[atr]at he
 obtain⟨dst,op,ty,pos,after,guard⟩:=o
 cases hr:b.roundOf with
 |none=>
  rw[hr]at he
  simp[stepG,stepG.exec,stepG.oper,Frame.oper?,atr,ho,hw,he,hr]
 |some l=>
  rw[hr]at he
  cases op<;>first
   |exact absurd rfl (hd _)
   |simp[stepG,stepG.exec,stepG.oper,Frame.oper?,atr,ho,hw,he,hr]
theorem st_op{ops:Array Oper}{i:Nat}{rest:List Nat}{o:Oper}(ho:ops[i]?=some o)(hw:Region.wanted o (yielded ops a.tmps)=true)(hd:∀c,o.op≠.defer c){v:Value}{w':World}
  (h:OpTo P a.eval o w v w'):Steps P (lone (atr b a (.inRegion ops (i::rest)::k)) cs w) (lone (atr b (a.put o.dst v) (.inRegion ops rest::k)) cs w'):=by
 have hg:=stG_op (P:=P) (b:=b) (k:=k) (cs:=cs) (w:=w) (rest:=rest) ho hw hd
 have hfin:∀v,(atr b a (.inRegion ops (i::rest)::k)).finish v=atr b (a.put o.dst v) (.inRegion ops rest::k):=by
  intro v;rw[finish_atr,ho];rfl
 rcases h with h|⟨h,rfl⟩|⟨f,args,h,hc⟩|⟨l,fn,tmps,as,bd,h,hc⟩
 ·refine .one (step_lone_go ?_)
  rw[hg,←hfin];simp[stepG.apply,h]
 ·refine .one (step_lone_go ?_)
  rw[hg,←hfin];simp[stepG.apply,h]
 ·obtain⟨fr,hfn,hl,hs⟩:=hc (atr b a (.inRegion ops (i::rest)::k)::cs)
  refine .head (step_lone_go (fr':=Frame.enter P f args .normal) (cs':=atr b a (.inRegion ops (i::rest)::k)::cs) (w':=w) ?_) (hs.trans (.one ?_))
  ·rw[hg];simp[stepG.apply,h,atr]
  ·rw[←hfin];exact step_leave_returned hl
 ·refine .head (step_lone_go (fr':=Frame.round l fn tmps as bd .normal) (cs':=atr b a (.inRegion ops (i::rest)::k)::cs) (w':=w) ?_) ?_
  ·rw[hg];simp[stepG.apply,h]
  ·rw[←hfin];exact hc _ _
end moves
theorem put_tmps{ι:IM}{F:Fset}{w:World}{env:List SV}{a:Act}{dst:Option Tmp}{v:SV}{x:Value}(he:VRs ι F w env a.tmps.toList)(hv:VR ι F w v x):VRs ι F w (putS env dst v) (a.put dst x).tmps.toList:=by
 cases dst with
 |none=>exact he
 |some d=>simpa[putS,Act.put]using he.set hv d
theorem put_defers(a:Act)(dst:Option Tmp)(x:Value):(a.put dst x).defers=a.defers:=by cases dst<;>rfl
theorem undef_VR{ι:IM}{F:Fset}{w:World}:VR ι F w undefS undef:=⟨#[],rfl,rfl⟩
theorem yielded_ok{ι:IM}{F:Fset}{w:World}{env:List SV}{t:Array Value}(he:VRs ι F w env t.toList)(ops:Array Oper)(j:Nat):yieldedS ops.toList env j=yielded ops t j:=by
 unfold yieldedS yielded
 rw[Array.getElem?_toList]
 cases hb:(ops[j]?).bind (·.dst)with
 |none=>rfl
 |some d=>
  simp only[Option.bind_some]
  cases hv:env[d]? with
  |none=>
   have hlen:=he.length
   have:t[d]?=none:=by
    rw[List.getElem?_eq_none_iff]at hv
    rw[Array.getElem?_eq_none_iff];simp at hlen;omega
   rw[this]
  |some e=>
   obtain⟨x,hx,hr⟩:=he.get hv
   rw[Array.getElem?_toList]at hx
   rw[hx]
   cases e with
   |bool q=>cases hr;rfl
   |int _ _=>cases hr;rfl
   |str _=>cases hr;rfl
   |nilp=>cases hr;rfl
   |nilf=>cases hr;rfl
   |nili=>cases hr;rfl
   |iface _ _=>obtain⟨_,rfl,_⟩:=hr;rfl
   |agg _=>obtain⟨_,rfl,_⟩:=hr;rfl
   |tup _=>obtain⟨_,rfl,_⟩:=hr;rfl
   |vsl _ _=>obtain⟨_,_,rfl,_⟩:=hr;rfl
   |osl _ _ _ _ _=>obtain⟨_,_,_,_,_,_,rfl,_⟩:=hr;rfl
   |vptr _=>obtain⟨_,_,_,rfl,_⟩:=hr;rfl
   |optr _ _ _=>obtain⟨_,_,rfl⟩:=hr;rfl
   |fn _ _ _=>obtain⟨_,_,rfl,_⟩:=hr;rfl
   |yld _=>obtain⟨_,_,rfl⟩:=hr;rfl
theorem wanted_ok{ι:IM}{F:Fset}{w:World}{env:List SV}{t:Array Value}(he:VRs ι F w env t.toList)(ops:Array Oper)(o:Oper):wantedS ops.toList env o=Region.wanted o (yielded ops t):=by
 unfold wantedS Region.wanted
 cases o.guard with
 |none=>rfl
 |some g=>obtain⟨j,want⟩:=g;simp only[yielded_ok he]
theorem not_defer{cfg:Cfg}{call:CallT}{rnd:Nat→List SV→Zt→Option (SV×Zt)}{env:List SV}{S:Zt}{op:Op}{r:SV×Zt}(h:opS cfg call rnd env S op=some r):∀c,op≠.defer c:=by
 intro c e
 subst e
 simp[opS,opT]at h
theorem region_text{P:Program}{cfg:Cfg}(hT:TyAll P cfg){call:CallT}{rnd:Nat→List SV→Zt→Option (SV×Zt)}(hcall:CallSpec P cfg call)(hrnd:RndSpec P rnd){ops:Array Oper} :
  ∀(l:List Oper) (i:Nat) (env env':List SV) (S S':Zt),runOps cfg call rnd ops.toList false i l env S=some (env',S')→ops.toList.drop i=l→
   ∀(ι:IM) (F:Fset) (w:World) (a:Act),Rel ι F S w→VRs ι F w env a.tmps.toList→
   ∃ι' F' w' a',a'.defers=a.defers∧Rel ι' F' S' w'∧VRs ι' F' w' env' a'.tmps.toList∧Ext ι F S w ι' F' S' w'∧
    ∀(b:Frame) (k:List Item) (cs:List Frame),Steps P (lone (atr b a (.inRegion ops (List.range' i l.length)::k)) cs w) (lone (atr b a' (.inRegion ops []::k)) cs w'):=by
 intro l
 induction l with
 |nil=>
  intro i env env' S S' h hl ι F w a hR he
  simp only[runOps]at h
  cases h
  exact⟨ι,F,w,a,rfl,hR,he,.refl _ _ _ _,fun _ _ _=>.refl _ _⟩
 |cons o r ih=>
  intro i env env' S S' h hl ι F w a hR he
  have ho:ops[i]?=some o:=by
   rw[←Array.getElem?_toList]
   have:=congrArg List.head? hl
   simpa[List.head?_drop]using this
  have hl':ops.toList.drop (i+1)=r:=by
   rw[←List.drop_drop,hl];rfl
  rw[List.length_cons,List.range'_succ]
  simp only[runOps]at h
  rw[wanted_ok he]at h
  split at h
  ·rename_i hw
   simp only[Bool.false_and,Bool.false_eq_true,if_false,Option.bind_eq_some_iff]at h
   obtain⟨⟨v,S1⟩,hop,h⟩:=h
   obtain⟨x,ι1,F1,w1,k1,k2,k3,k4⟩:=opS_ok hT hcall hrnd he hR hop
   obtain⟨ι2,F2,w2,a2,e0,e1,e2,e3,e4⟩:=ih (i+1) _ _ _ _ h hl' ι1 F1 w1 (a.put o.dst x) k3 (put_tmps (he.up k4.up) k2)
   exact⟨ι2,F2,w2,a2,by rw[e0,put_defers],e1,e2,k4.trans hR.dom e3,fun b k cs=>(st_op ho hw (not_defer hop) k1).trans (e4 b k cs)⟩
  ·rename_i hw
   obtain⟨ι2,F2,w2,a2,e0,e1,e2,e3,e4⟩:=ih (i+1) _ _ _ _ h hl' ι F w (a.put o.dst undef) hR (put_tmps he undef_VR)
   refine⟨ι2,F2,w2,a2,by rw[e0,put_defers],e1,e2,e3,fun b k cs=>.head (st_op_skip ?_) ?_⟩
   ·simp only[ho,Option.map_some,Option.getD_some]
    simpa using hw
   ·rw[ho];exact e4 b k cs
end Go.Sh
namespace Go.Sh
theorem evals_congr{env env':List SV}:∀{l:List Operand},(∀x∈l,evalS env x=evalS env' x)→evalsS env l=evalsS env' l
 |[],_=>rfl
 |x::r,h=>by simp only[evalsS,h x (by simp),evals_congr (l:=r) fun y hy=>h y (by simp[hy])]
theorem parts_congr {env env' : List SV} : ∀ {l : List (Nat × Operand)}, (∀ x ∈ l.map (·.2), evalS env x = evalS env' x) → partsS env l = partsS env' l
  | [], _ => rfl
  | (i, x) :: r, h => by simp only [partsS, h x (by simp), parts_congr (l := r) fun y hy => h y (by simp only [List.map_cons, List.mem_cons]; exact .inr hy)]
theorem opT_congr{cfg:Cfg}{env env':List SV}{op:Op}(h:∀x∈op.operands,evalS env x=evalS env' x):opT cfg env op=opT cfg env' op:=by
 cases op<;>simp only[Op.operands]at h<;>simp only[opT]
 case move x=>exact h x (by simp)
 case assign x=>exact h x (by simp)
 case pick c a b=>rw[h c (by simp),h a (by simp),h b (by simp)]
 case build t ps=>rw[parts_congr (env:=env) (env':=env') (l:=ps.toList) fun x hx=>h x (by simpa using hx)]
 case nilCheck x=>rw[h x (by simp)]
 case binOp op t x y u=>rw[h x (by simp),h y (by simp)]
 case unOp op t x=>rw[h x (by simp)]
 case convert c d x=>rw[h x (by simp)]
 case makeFunc fn first cap=>
  cases fn with
  |func f=>simp only[];rw[evals_congr (env:=env) (env':=env') (l:=first.toList) fun x hx=>h x (by simp at hx;simp[hx]),evals_congr (env:=env) (env':=env') (l:=cap.toList) fun x hx=>h x (by simp at hx;simp[hx])]
  |_=>rfl
 case slice t x lo hi mx=>
  rw[h x (by simp)]
  have ho:∀o:Option Operand,(∀y,o=some y→evalS env y=evalS env' y)→(o.map fun o=>(evalS env o).getD .nilp)=(o.map fun o=>(evalS env' o).getD .nilp):=fun o ho=>by
   cases o with
   |none=>rfl
   |some y=>simp only[Option.map_some];rw[ho y rfl]
  rw[ho lo fun y e=>h y (by subst e;simp),ho hi fun y e=>h y (by subst e;simp),ho mx fun y e=>h y (by subst e;simp)]
 case fieldAddr t x f=>rw[h x (by simp)]
 case field t x f=>rw[h x (by simp)]
 case indexAddr t x ix=>rw[h x (by simp),h ix (by simp)]
 case index t x ix=>rw[h x (by simp),h ix (by simp)]
 case extract x ix=>rw[h x (by simp)]
 case call c=>rw[evals_congr (env:=env) (env':=env') (l:=c.args.toList) fun x hx=>h x (by simp[Call.operands];exact .inr (by simpa using hx))]
theorem opS_congr{cfg:Cfg}{call:CallT}{rnd:Nat→List SV→Zt→Option (SV×Zt)}{S:Zt}{env env':List SV}{op:Op}(h:∀x∈op.operands,evalS env x=evalS env' x):opS cfg call rnd env S op=opS cfg call rnd env' S op:=by
 have hT:=opT_congr (cfg:=cfg) h
 cases op
 case box t x=>simp only[Op.operands]at h;simp only[opS];rw[h x (by simp)]
 case buildSlice t len ps=>simp only[Op.operands]at h;simp only[opS];rw[parts_congr (env:=env) (env':=env') (l:=ps.toList) fun x hx=>h x (by simpa using hx)]
 case load t x=>simp only[Op.operands]at h;simp only[opS];rw[h x (by simp)]
 case store t x y=>simp only[Op.operands]at h;simp only[opS];rw[h x (by simp),h y (by simp)]
 case makeSlice t l c=>simp only[Op.operands]at h;simp only[opS];rw[h l (by simp),h c (by simp)]
 case call c=>
  have ha:evalsS env c.args.toList=evalsS env' c.args.toList:=evals_congr fun x hx=>h x (by simp[Op.operands,Call.operands];exact .inr (by simpa using hx))
  obtain⟨cl,cargs,ats⟩:=c
  cases cl with
  |builtin b=>cases b<;>simp only[opS]<;>first|rw[ha]|rw[hT]
  |invoke r m=>rfl
  |value f=>simp only[opS];rw[ha,h f (by simp[Op.operands,Call.operands])]
 all_goals (simp only[opS];try rw[hT])
theorem quiet_congr{cfg:Cfg}{env env':List SV}{op:Op}(h:∀x∈op.operands,evalS env x=evalS env' x):quietCall cfg env op=quietCall cfg env' op:=by
 cases op<;>try rfl
 case call c=>
  obtain⟨cl,cargs,ats⟩:=c
  cases cl with
  |value f=>simp only[quietCall];rw[h f (by simp[Op.operands,Call.operands])]
  |_=>rfl
theorem reads_ops{ops:List Oper}{o:Oper}{env env':List SV}(h:∀t∈readsOf ops o,env[t]?=env'[t]?):∀x∈o.op.operands,evalS env x=evalS env' x:=by
 intro x hx
 cases x with
 |tmp t=>exact h t (by simp only[readsOf,List.mem_append];exact .inl (List.mem_filterMap.2 ⟨.tmp t,by simpa using hx,rfl⟩))
 |_=>rfl
theorem reads_wanted{ops:List Oper}{o:Oper}{env env':List SV}(h:∀t∈readsOf ops o,env[t]?=env'[t]?):wantedS ops env o=wantedS ops env' o:=by
 unfold wantedS
 cases hg:o.guard with
 |none=>rfl
 |some g=>
  obtain⟨j,want⟩:=g
  have:yieldedS ops env j=yieldedS ops env' j:=by
   unfold yieldedS
   cases hb:(ops[j]?).bind (·.dst)with
   |none=>rfl
   |some t=>
    simp only[Option.bind_some]
    rw[h t (by simp[readsOf,hg,hb])]
  simp only[this]
def beforeF(bs:List Nat)(o:Oper):Nat:=o.after.toList.foldl (fun s e=>if Region.binds .any e then s ||| 2^e.on ||| bs.getD e.on 0 else s) 0
theorem befores_pre:∀(l:List Oper) (acc:List Nat),∃t,befores l acc=acc++t∧t.length=l.length
 |[],acc=>⟨[],by simp[befores],rfl⟩
 |o::r,acc=>by
  obtain⟨t,h1,h2⟩:=befores_pre r (acc++[beforeF acc o])
  exact⟨beforeF acc o::t,by rw[befores];exact h1.trans (by simp),by simp[h2]⟩
theorem befores_get:∀(l:List Oper) (acc:List Nat) (j:Nat) (o:Oper),l[j]?=some o→(befores l acc)[acc.length+j]?=some (beforeF ((befores l acc).take (acc.length+j)) o)
 |[],_,_,_,h=>by simp at h
 |o::r,acc,0,o',h=>by
  simp at h;subst h
  obtain⟨t,h1,h2⟩:=befores_pre r (acc++[beforeF acc o])
  have hb:befores (o::r) acc=acc++(beforeF acc o::t):=by rw[befores];exact h1.trans (by simp)
  rw[hb];simp
 |o::r,acc,j+1,o',h=>by
  have:=befores_get r (acc++[beforeF acc o]) j o' (by simpa using h)
  have hb:befores (o::r) acc=befores r (acc++[beforeF acc o]):=by rw[befores];rfl
  rw[hb]
  simpa[Nat.add_assoc,Nat.add_comm 1 j]using this
theorem fold_bit{bs:List Nat}{i:Nat}:∀(es:List Edge) (s:Nat),(es.foldl (fun s e=>if Region.binds .any e then s ||| 2^e.on ||| bs.getD e.on 0 else s) s).testBit i=true→
  s.testBit i=true∨∃e∈es,Region.binds .any e=true∧(e.on=i∨(bs.getD e.on 0).testBit i=true)
 |[],s,h=>.inl h
 |e::r,s,h=>by
  rw[List.foldl_cons]at h
  rcases fold_bit r _ h with h|⟨e',h1,h2⟩
  ·split at h
   ·rename_i hb
    rw[Nat.testBit_or,Nat.testBit_or,Nat.testBit_two_pow]at h
    simp only[Bool.or_eq_true,decide_eq_true_eq]at h
    rcases h with (h|h)|h
    ·exact .inl h
    ·exact .inr ⟨e,by simp,hb,.inl h⟩
    ·exact .inr ⟨e,by simp,hb,.inr h⟩
   ·exact .inl h
  ·exact .inr ⟨e',by simp[h1],h2⟩
def bit(ops:List Oper)(j i:Nat):Bool:=((befores ops []).getD j 0).testBit i
theorem bit_spec{ops:List Oper}{i j:Nat}{o:Oper}(ho:ops[j]?=some o)(h:bit ops j i=true):∃e∈o.after.toList,Region.binds .any e=true∧(e.on=i∨(e.on<j∧bit ops e.on i=true)):=by
 have hg:=befores_get ops [] j o ho
 simp only[List.length_nil,Nat.zero_add]at hg
 unfold bit at h
 rw[List.getD_eq_getElem?_getD,hg]at h
 rcases fold_bit _ _ h with h|⟨e,h1,h2,h3⟩
 ·simp at h
 ·refine⟨e,h1,h2,h3.imp id fun h3=>?_⟩
  rw[List.getD_eq_getElem?_getD,List.getElem?_take]at h3
  split at h3
  ·rename_i hlt
   refine⟨hlt,?_⟩
   unfold bit
   rw[List.getD_eq_getElem?_getD];exact h3
  ·simp at h3
structure DrawFacts(ops:List Oper):Prop where
 edge:∀j o e,ops[j]?=some o→e∈o.after.toList→Region.binds .any e=true→e.on<j
 tied:∀i j a o,ops[i]?=some a→ops[j]?=some o→i<j→tied ops a o=true→(¬(effS a.op=true∧sens o.op=true))∧bit ops j i=true
theorem drawOk_facts{ops:List Oper}(h:drawOk ops=true):DrawFacts ops:=by
 unfold drawOk at h
 simp only[List.all_eq_true]at h
 have get:∀j o,ops[j]?=some o→(o,j)∈ops.zipIdx:=fun j o ho=>by
  rw[List.mem_iff_getElem?]
  exact⟨j,by simp[List.getElem?_zipIdx,ho]⟩
 refine⟨fun j o e ho he hb=>?_,fun i j a o ha ho hij ht=>?_⟩
 ·have:=h _ (get j o ho)
  simp only[Bool.and_eq_true,List.all_eq_true]at this
  have:=this.1 e he
  simpa[hb]using this
 ·have:=h _ (get j o ho)
  simp only[Bool.and_eq_true,List.all_eq_true]at this
  have:=this.2 _ (get i a ha)
  simp only[hij,decide_true,Bool.not_true,Bool.false_or,ht,Bool.and_eq_true,Bool.not_eq_true',Bool.and_eq_false_imp]at this
  refine⟨fun⟨h1,h2⟩=>?_,this.2⟩
  have:=this.1 h1
  rw[h2]at this;cases this
theorem bit_lt{ops:List Oper}(hf:DrawFacts ops){j i:Nat}{o:Oper}(ho:ops[j]?=some o)(h:bit ops j i=true):i<j:=by
 induction j using Nat.strongRecOn generalizing o with
 |_ j ih=>
  obtain⟨e,h1,h2,h3⟩:=bit_spec ho h
  have hlt:=hf.edge j o e ho h1 h2
  rcases h3 with rfl|⟨_,h3⟩
  ·exact hlt
  ·have hj:j<ops.length:=(List.getElem?_eq_some_iff.1 ho).1
   have:=ih e.on hlt (List.getElem?_eq_getElem (show e.on<ops.length by omega)) h3
   omega
def Closed(ops:List Oper)(L:Nat→Bool):Prop:=∀j o i,ops[j]?=some o→L j=true→bit ops j i=true→L i=true
theorem ready_bits{ops:List Oper}{L:Nat→Bool}(hc:Closed ops L)(hf:DrawFacts ops){j:Nat}{o:Oper}(ho:ops[j]?=some o)(hr:∀e∈o.after.toList,Region.binds .any e=true→L e.on=true){i:Nat}(h:bit ops j i=true):L i=true:=by
 obtain⟨e,h1,h2,h3⟩:=bit_spec ho h
 rcases h3 with rfl|⟨hlt,h3⟩
 ·exact hr e h1 h2
 ·have hj:j<ops.length:=(List.getElem?_eq_some_iff.1 ho).1
  exact hc e.on _ i (List.getElem?_eq_getElem (show e.on<ops.length by omega)) (hr e h1 h2) h3
theorem lastOk_spec{ops:List Oper}{j:Nat}(h:lastOk ops j=true){i:Nat}{a:Oper}(ha:ops[i]?=some a)(hij:i≠j)(hk:sens a.op=true∨effS a.op=true):bit ops j i=true:=by
 unfold lastOk at h
 simp only[List.all_eq_true]at h
 have:=h (a,i) (by rw[List.mem_iff_getElem?];exact⟨i,by simp[List.getElem?_zipIdx,ha]⟩)
 simp only[Bool.or_eq_true,beq_iff_eq,hij,false_or,Bool.not_eq_true',Bool.or_eq_false_iff]at this
 rcases this with⟨h1,h2⟩|h1
 ·rcases hk with hk|hk
  ·rw[hk]at h1;cases h1
  ·rw[hk]at h2;cases h2
 ·exact h1
end Go.Sh
namespace Go.Sh
theorem Ext.quiet'{ι0 ι ι':IM}{F0 F F':Fset}{S0 S:Zt}{w0 w w':World}{lo hi:Nat}(h:Ext ι0 F0 S0 w0 ι F S w)(q:QExt ι F w ι' F' w' lo hi)(hlo:S0.length≤lo):Ext ι0 F0 S0 w0 ι' F' S w' where
 up:=h.up.trans q.up
 size:=Nat.le_trans h.size q.size
 len:=h.len
 evol:=h.evol
 fnew b o hf:=(q.fnew b o hf).elim (fun h1=>h.fnew b o h1) (fun h1=>.inr (.inl (Nat.le_trans h.size h1)))
 inew id ix hid:=(q.inew id ix hid).elim (h.inew id ix) (fun h1=>.inr ⟨Nat.le_trans hlo h1.1,.inl (Nat.le_trans h.size h1.2.2)⟩)
 frame b hb hn:=(q.frame b (Nat.lt_of_lt_of_le hb h.size)).trans (h.frame b hb hn)
 os:=q.os.trans h.os
 output:=q.output.trans h.output
 tape:=q.tape.trans h.tape
theorem putS_len(env:List SV)(dst:Option Tmp)(v:SV):(putS env dst v).length=env.length:=by cases dst<;>simp[putS]
theorem putS_get{env env':List SV}{t:Nat}(hl:env.length=env'.length)(h:env[t]?=env'[t]?)(dst:Option Tmp)(v:SV):(putS env dst v)[t]?=(putS env' dst v)[t]?:=by
 cases dst with
 |none=>exact h
 |some d=>
  simp only[putS,List.getElem?_set]
  split
  ·rw[hl]
  ·exact h
theorem putS_ne{env:List SV}{t:Nat}{dst:Option Tmp}{v:SV}(h:dst≠some t):(putS env dst v)[t]?=env[t]?:=by
 cases dst with
 |none=>rfl
 |some d=>simp only[putS];rw[List.getElem?_set_ne (fun e=>h (by rw[e]))]
theorem putS_comm{env:List SV}{x y:Option Tmp}{u v:SV}(h:∀d,x=some d→y≠some d):putS (putS env x u) y v=putS (putS env y v) x u:=by
 cases x with
 |none=>rfl
 |some d=>
  cases y with
  |none=>rfl
  |some e=>
   simp only[putS]
   exact List.set_comm _ _ (fun e'=>h d rfl (by rw[e']))
def StepAt (cfg : Cfg) (call : CallT) (rnd : Nat → List SV → Zt → Option (SV × Zt)) (ops : List Oper) (E : Nat → List SV) (T : Nat → Zt) (V : Nat → SV) (j : Nat) (o : Oper) : Prop :=
  E (j + 1) = putS (E j) o.dst (V j) ∧
  ((wantedS ops (E j) o = true ∧ (quietCall cfg (E j) o.op = true ∨ lastOk ops j = true) ∧ opS cfg call rnd (E j) (T j) o.op = some (V j, T (j + 1))) ∨
   (wantedS ops (E j) o = false ∧ V j = undefS ∧ T (j + 1) = T j))
theorem run_trace{cfg:Cfg}{call:CallT}{rnd:Nat→List SV→Zt→Option (SV×Zt)}{ops:List Oper} :
  ∀(l:List Oper) (i:Nat) (env env':List SV) (S S':Zt),runOps cfg call rnd ops true i l env S=some (env',S')→
   ∃(E:Nat→List SV) (T:Nat→Zt) (V:Nat→SV),E i=env∧T i=S∧E (i+l.length)=env'∧T (i+l.length)=S'∧
    ∀j o,l[j]?=some o→StepAt cfg call rnd ops E T V (i+j) o:=by
 intro l
 induction l with
 |nil=>
  intro i env env' S S' h
  simp only[runOps]at h;cases h
  exact⟨fun _=>env,fun _=>S,fun _=>undefS,rfl,rfl,rfl,rfl,fun j o h=>by simp at h⟩
 |cons o r ih=>
  intro i env env' S S' h
  have ext:∀(v:SV) (S1:Zt),runOps cfg call rnd ops true (i+1) r (putS env o.dst v) S1=some (env',S')→
    ((wantedS ops env o=true∧(quietCall cfg env o.op=true∨lastOk ops i=true)∧opS cfg call rnd env S o.op=some (v,S1))∨(wantedS ops env o=false∧v=undefS∧S1=S))→
    ∃(E:Nat→List SV) (T:Nat→Zt) (V:Nat→SV),E i=env∧T i=S∧E (i+(o::r).length)=env'∧T (i+(o::r).length)=S'∧
     ∀j o',(o::r)[j]?=some o'→StepAt cfg call rnd ops E T V (i+j) o':=by
   intro v S1 h hs
   obtain⟨E,T,V,e1,e2,e3,e4,e5⟩:=ih _ _ _ _ _ h
   have ne:∀m,i+1+m≠i:=fun m=>by omega
   refine⟨fun j=>if j=i then env else E j,fun j=>if j=i then S else T j,fun j=>if j=i then v else V j,by simp,by simp,?_,?_,?_⟩
   ·simp only[List.length_cons];rw[if_neg (by omega),←e3];congr 1;omega
   ·simp only[List.length_cons];rw[if_neg (by omega),←e4];congr 1;omega
   ·intro j o' hj
    cases j with
    |zero=>
     simp at hj;subst hj
     unfold StepAt
     simp only[Nat.add_zero,if_true]
     rw[if_neg (by omega),if_neg (by omega),e1,e2]
     exact⟨rfl,hs⟩
    |succ j=>
     have:=e5 j o' (by simpa using hj)
     unfold StepAt at this ⊢
     rw[show i+(j+1)=i+1+j by omega]
     have n1:¬(i+1+j=i):=by omega
     have n2:¬(i+1+j+1=i):=by omega
     simp only[n1,n2,if_false]
     exact this
  simp only[runOps]at h
  split at h
  ·rename_i hw
   split at h
   ·cases h
   ·rename_i hq
    rw[Option.bind_eq_some_iff]at h
    obtain⟨⟨v,S1⟩,hop,h⟩:=h
    refine ext v S1 h (.inl ⟨hw,?_,hop⟩)
    simp only[Bool.true_and,Bool.and_eq_true,Bool.not_eq_true',not_and,Bool.not_eq_false]at hq
    by_cases hqc:quietCall cfg env o.op=true
    ·exact .inl hqc
    ·exact .inr (hq (by simpa using hqc))
  ·rename_i hw
   exact ext undefS S h (.inr ⟨by simpa using hw,rfl,rfl⟩)
def el(ops:List Oper)(V:Nat→SV)(env:List SV)(L:Nat→Bool):Nat→List SV
 |0=>env
 |m+1=>if L m then putS (el ops V env L m) ((ops[m]?).bind (·.dst)) (V m)else el ops V env L m
theorem el_len(ops:List Oper)(V:Nat→SV)(env:List SV)(L:Nat→Bool):∀m,(el ops V env L m).length=env.length
 |0=>rfl
 |m+1=>by
  simp only[el]
  split
  ·rw[putS_len,el_len]
  ·exact el_len ops V env L m
theorem opT_quiet{cfg:Cfg}{call:CallT}{rnd:Nat→List SV→Zt→Option (SV×Zt)}{env:List SV}{S S':Zt}{op:Op}{v:SV}(h1:effS op=false)(h2:sens op=false)(h:opS cfg call rnd env S op=some (v,S')):opT cfg env op=some v∧S'=S:=by
 have key:(opT cfg env op).map (fun v=>(v,S))=some (v,S')→opT cfg env op=some v∧S'=S:=by
  intro h
  rw[Option.map_eq_some_iff]at h
  obtain⟨u,h3,h4⟩:=h
  cases h4;exact⟨h3,rfl⟩
 cases op
 case call c=>
  obtain⟨cl,cargs,ats⟩:=c
  cases cl with
  |builtin b=>cases b<;>first|exact key h|(exact absurd (show true=false from h1) (by simp))
  |invoke r m=>simp only[opS]at h;cases h
  |value f=>simp[sens]at h2
 all_goals first
  |exact Bool.noConfusion (show true=false from h1)
  |exact Bool.noConfusion (show true=false from h2)
  |exact key h
theorem opT_to{P:Program}{cfg:Cfg}(hT:TyAll P cfg){ι:IM}{F:Fset}{w:World}{env:List SV}{a:Act}(he:VRs ι F w env a.tmps.toList){o:Oper}{v:SV}(h:opT cfg env o.op=some v) :
  ∃x,OpTo P a.eval o w x w∧VR ι F w v x:=by
 obtain⟨x,h1,h2⟩:=opT_ok hT he h
 exact⟨x,.inl (h1 w),h2⟩
theorem tied_w{ops:List Oper}{a b:Oper}{d:Tmp}(h:a.dst=some d)(h2:d∈readsOf ops b∨b.dst=some d):tied ops a b=true:=by
 unfold tied
 rw[h]
 rcases h2 with h2|h2<;>simp[h2]
theorem tied_r{ops:List Oper}{a b:Oper}{d:Tmp}(h:b.dst=some d)(h2:d∈readsOf ops a):tied ops a b=true:=by
 unfold tied
 rw[h]
 simp[h2]
theorem tied_e{ops:List Oper}{a b:Oper}(h:effS b.op=true)(h2:sens a.op=true∨effS a.op=true):tied ops a b=true:=by
 unfold tied
 rcases h2 with h2|h2<;>simp[h,h2]
theorem tied_s{ops:List Oper}{a b:Oper}(h:effS a.op=true)(h2:sens b.op=true):tied ops a b=true:=by
 unfold tied
 simp[h,h2]
section drawn
variable {P:Program} {cfg:Cfg} {call:CallT} {rnd:Nat→List SV→Zt→Option (SV×Zt)} {ops:Array Oper} {E:Nat→List SV} {T:Nat→Zt} {V:Nat→SV}
theorem el_reads(hf:DrawFacts ops.toList)(hst:∀j o,ops.toList[j]?=some o→StepAt cfg call rnd ops.toList E T V j o){L:Nat→Bool}(hc:Closed ops.toList L){j:Nat}{o:Oper}(ho:ops.toList[j]?=some o)
  (hu:L j=false) (hr:∀e∈o.after.toList,Region.binds .any e=true→L e.on=true):∀t∈readsOf ops.toList o,(el ops.toList V (E 0) L ops.toList.length)[t]?=(E j)[t]?:=by
 intro t ht
 have hj:j<ops.toList.length:=(List.getElem?_eq_some_iff.1 ho).1
 have elen:∀m,m≤ops.toList.length→(E m).length=(E 0).length:=by
  intro m
  induction m with
  |zero=>intro _;rfl
  |succ m ih=>
   intro hm
   have hm':m<ops.toList.length:=by omega
   have:=(hst m _ (List.getElem?_eq_getElem hm')).1
   rw[this,putS_len,ih (by omega)]
 have low:∀m,m≤j→(el ops.toList V (E 0) L m)[t]?=(E m)[t]?:=by
  intro m
  induction m with
  |zero=>intro _;rfl
  |succ m ih=>
   intro hm
   have hm':m<ops.toList.length:=by omega
   have hom:=List.getElem?_eq_getElem hm'
   have h1:=(hst m _ hom).1
   have hih:=ih (by omega)
   rw[h1]
   simp only[el,hom,Option.bind_some]
   by_cases hL:L m=true
   ·rw[if_pos hL]
    exact putS_get (by rw[el_len,elen m (by omega)]) hih _ _
   ·rw[if_neg hL]
    have hne:ops.toList[m].dst≠some t:=by
     intro hd
     have htied:tied ops.toList ops.toList[m] o=true:=tied_w hd (.inl ht)
     have hb:=(hf.tied m j _ _ hom ho (by omega) htied).2
     exact hL (ready_bits hc hf ho hr hb)
    rw[putS_ne hne,hih]
 have high:∀m,j≤m→m≤ops.toList.length→(el ops.toList V (E 0) L m)[t]?=(E j)[t]?:=by
  intro m
  induction m with
  |zero=>intro h1 _;rw[show j=0 by omega];rfl
  |succ m ih=>
   intro h1 h2
   by_cases hjm:j=m+1
   ·rw[←hjm];exact low j (Nat.le_refl _)
   ·have hm':m<ops.toList.length:=by omega
    have hom:=List.getElem?_eq_getElem hm'
    have hih:=ih (by omega) (by omega)
    simp only[el,hom,Option.bind_some]
    by_cases hL:L m=true
    ·rw[if_pos hL]
     have hne:ops.toList[m].dst≠some t:=by
      intro hd
      have hjm':j≠m:=fun e=>by subst e;rw[hu]at hL;cases hL
      have htied:tied ops.toList o ops.toList[m]=true:=tied_r hd ht
      have hb:=(hf.tied j m _ _ ho hom (by omega) htied).2
      have:=hc m _ j hom hL hb
      rw[hu]at this;cases this
     rw[putS_ne hne,hih]
    ·rw[if_neg hL,hih]
 exact high _ (by omega) (Nat.le_refl _)
theorem el_put(hf:DrawFacts ops.toList){env:List SV}{L:Nat→Bool}(hc:Closed ops.toList L){j:Nat}{o:Oper}(ho:ops.toList[j]?=some o)(hu:L j=false) :
  el ops.toList V env (fun i=>i==j || L i) ops.toList.length=putS (el ops.toList V env L ops.toList.length) o.dst (V j):=by
 have hj:j<ops.toList.length:=(List.getElem?_eq_some_iff.1 ho).1
 have low:∀m,m≤j→el ops.toList V env (fun i=>i==j || L i) m=el ops.toList V env L m:=by
  intro m
  induction m with
  |zero=>intro _;rfl
  |succ m ih=>
   intro hm
   simp only[el,ih (by omega)]
   have:(m==j)=false:=by simp;omega
   simp only[this,Bool.false_or]
 have high:∀m,j<m→m≤ops.toList.length→el ops.toList V env (fun i=>i==j || L i) m=putS (el ops.toList V env L m) o.dst (V j):=by
  intro m
  induction m with
  |zero=>intro h;omega
  |succ m ih=>
   intro h1 h2
   by_cases hjm:j=m
   ·subst hjm
    simp only[el,low j (Nat.le_refl _),BEq.rfl,Bool.true_or,if_true,hu,Bool.false_eq_true,if_false,ho,Option.bind_some]
   ·have hih:=ih (by omega) (by omega)
    have hom:=List.getElem?_eq_getElem (show m<ops.toList.length by omega)
    have:(m==j)=false:=by simp;omega
    simp only[el,this,Bool.false_or,hih,hom,Option.bind_some]
    by_cases hL:L m=true
    ·rw[if_pos hL,if_pos hL]
     refine putS_comm fun d hd hd'=>?_
     have htied:tied ops.toList o ops.toList[m]=true:=tied_w hd (.inr hd')
     have hb:=(hf.tied j m _ _ ho hom (by omega) htied).2
     have:=hc m _ j hom hL hb
     rw[hu]at this;cases this
    ·rw[if_neg hL,if_neg hL]
 exact high _ hj (Nat.le_refl _)
theorem el_full(hst:∀j o,ops.toList[j]?=some o→StepAt cfg call rnd ops.toList E T V j o){L:Nat→Bool}(hL:∀j,j<ops.toList.length→L j=true):el ops.toList V (E 0) L ops.toList.length=E ops.toList.length:=by
 have key:∀m,m≤ops.toList.length→el ops.toList V (E 0) L m=E m:=by
  intro m
  induction m with
  |zero=>intro _;rfl
  |succ m ih=>
   intro hm
   have hom:=List.getElem?_eq_getElem (show m<ops.toList.length by omega)
   simp only[el,hL m (by omega),if_true,hom,Option.bind_some,ih (by omega)]
   exact((hst m _ hom).1).symm
 exact key _ (Nat.le_refl _)
end drawn
end Go.Sh
