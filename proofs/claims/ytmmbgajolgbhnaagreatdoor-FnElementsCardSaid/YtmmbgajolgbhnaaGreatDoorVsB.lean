import Derived.Test.YtmmbgajolgbhnaaGreatDoorVsA
set_option linter.all false
namespace Go.VS
universe u
theorem atl {c1 c2:Nat→St→Option Out} (h:∀ f s o,c1 f s=some o→c2 f s=some o):∀ (i:I) (s s':St),ev1 c1 i s=some s'→ev1 c2 i s=some s':=by
  have hd:∀ s d f as caps s',doCall c1 s d f as caps=some s'→doCall c2 s d f as caps=some s':=by
    intro s d f as caps s' hc
    unfold doCall at hc ⊢
    split at hc
    · cases hc
    · rename_i s0 xp he
      try rw [he]
      try simp only
      split at hc
      · cases hc
      · rename_i v m r hv
        rw [h _ _ _ hv]
        exact hc
  intro i
  induction i with
  | call d f as=>intro s s' hc;exact hd _ _ _ _ _ _ hc
  | callv d x as=>
    intro s s' hc
    unfold ev1 at hc ⊢
    split at hc
    · exact hd _ _ _ _ _ _ hc
    · cases hc
  | callg d f as=>
    intro s s' hc
    simp only [ev1] at hc ⊢
    split at hc
    · rename_i hf
      rw [if_pos hf]
      obtain ⟨o,ho,rfl⟩:=Option.map_eq_some_iff.1 hc
      rw [h _ _ _ ho];rfl
    · cases hc
  | callr d f as=>
    intro s s' hc
    simp only [ev1] at hc ⊢
    split at hc
    · rename_i o ho
      rw [h _ _ _ ho]
      exact hc
    · cases hc
  | g sl w d i ih=>
    intro s s' hc
    unfold ev1 at hc ⊢
    split at hc
    · exact ih _ _ hc
    · exact hc
    · cases hc
  | ck c i ih=>
    intro s s' hc
    unfold ev1 at hc ⊢
    split at hc
    · rename_i hk;rw [if_pos hk];exact ih _ _ hc
    · cases hc
  | _=>intro s s' hc;exact hc
theorem aby {c1 c2:Nat→St→Option Out} (h:∀ f s o,c1 f s=some o→c2 f s=some o):∀ (is:List I) (s s':St),evIs c1 is s=some s'→evIs c2 is s=some s':=by
  intro is
  induction is with
  | nil=>intro s s' hc;exact hc
  | cons i is ih=>
    intro s s' hc
    unfold evIs at hc ⊢
    split at hc
    · rename_i s1 h1
      rw [atl h _ _ _ h1]
      exact ih _ _ hc
    · cases hc
theorem agn {f1 f2:St→Option (Ex × St)} (h:∀ s o,f1 s=some o→f2 s=some o):∀ (n n':Nat),n≤n'→∀ s o,rounds f1 n s=some o→rounds f2 n' s=some o:=by
  intro n
  induction n with
  | zero=>intro n' _ s o hc;cases hc
  | succ n ih=>
    intro n' hn s o hc
    obtain ⟨m,rfl⟩:∃ m,n'=m+1:=⟨n' - 1,by omega⟩
    unfold rounds at hc ⊢
    split at hc
    · rename_i s1 h1
      rw [h _ _ h1]
      exact ih _ (by omega) _ _ hc
    · rename_i o1 hne
      rw [h _ _ hc]
      split
      · rename_i s2 h2
        cases h2
        exact absurd hc (hne _)
      · rfl
theorem abn {c1 c2:Nat→St→Option Out} (h:∀ f s o,c1 f s=some o→c2 f s=some o) {n n':Nat} (hn:n≤n'):∀ (c:C) (s:St) (o:Ex × St),evC c1 n c s=some o→evC c2 n' c s=some o:=by
  intro c
  induction c with
  | r is=>
    intro s o hc
    unfold evC at hc ⊢
    obtain ⟨s',hs,rfl⟩:=Option.map_eq_some_iff.1 hc
    rw [aby h _ _ _ hs]
    rfl
  | ra is cs alts=>
    intro s o hc
    cases alts with
    | nil=>cases hc
    | cons p ps=>
      simp only [evC] at hc ⊢
      split at hc
      · rename_i s' h1
        rw [aby h _ _ _ h1]
        simp only
        split at hc
        · rename_i hq
          rw [if_pos fun q hm=>aby h _ _ _ (hq q hm)]
          exact hc
        · cases hc
      · cases hc
  | seq a b iha ihb=>
    intro s o hc
    unfold evC at hc ⊢
    split at hc
    · rename_i s1 h1
      rw [iha _ _ h1]
      exact ihb _ _ hc
    · rename_i o1 hne
      rw [iha _ _ hc]
      split
      · rename_i s2 h2
        cases h2
        exact absurd hc (hne _)
      · rfl
  | cond x a b iha ihb=>
    intro s o hc
    unfold evC at hc ⊢
    split at hc
    · split at hc
      · rename_i hw;rw [if_pos hw];exact iha _ _ hc
      · rename_i hw;rw [if_neg hw];exact ihb _ _ hc
    · cases hc
  | blk id c ih=>
    intro s o hc
    unfold evC at hc ⊢
    split at hc
    · rename_i id' s1 h1
      rw [ih _ _ h1]
      exact hc
    · rename_i o1 hne
      rw [ih _ _ hc]
      split
      · rename_i id2 s2 h2
        cases h2
        exact absurd hc (hne _ _)
      · rfl
  | loop lv ow om c ih=>
    intro s o hc
    unfold evC at hc ⊢
    exact agn (fun s o hh=>ih _ _ hh) _ _ hn _ _ hc
  | ex id=>intro s o hc;exact hc
  | ret=>intro s o hc;exact hc
  | skip=>intro s o hc;exact hc
  | any=>intro s o hc;cases hc
theorem atm (p:Prog):∀ n f s o,evF p n f s=some o→evF p (n+1) f s=some o:=by
  intro n
  induction n with
  | zero=>intro f s o hc;cases hc
  | succ n ih=>
    intro f s o hc
    unfold evF at hc ⊢
    split at hc
    · cases hc
    · exact hc
    · rename_i np nt rs body hp
      try simp only
      split at hc
      · rename_i hl
        rw [if_pos hl]
        split at hc
        · rename_i s1 h1
          rw [abn (ih ·) (Nat.le_succ n) _ _ _ h1]
          exact hc
        · rename_i s1 h1
          rw [abn (ih ·) (Nat.le_succ n) _ _ _ h1]
          exact hc
        · cases hc
      · cases hc
    · rename_i np nt rs body hp
      try simp only
      split at hc
      · rename_i hl
        rw [if_pos hl]
        split at hc
        · rename_i s1 h1
          rw [abn (ih ·) (Nat.le_succ n) _ _ _ h1]
          exact hc
        · rename_i s1 h1
          rw [abn (ih ·) (Nat.le_succ n) _ _ _ h1]
          exact hc
        · cases hc
      · cases hc
    · rename_i np nt rs body hp
      try simp only
      split at hc
      · split at hc
        · rename_i hl
          rw [if_pos hl]
          split at hc
          · rename_i s1 h1
            rw [abn (ih ·) (Nat.le_succ n) _ _ _ h1]
            exact hc
          · rename_i s1 h1
            rw [abn (ih ·) (Nat.le_succ n) _ _ _ h1]
            exact hc
          · cases hc
        · cases hc
      · cases hc
    · rename_i np nt rs body hp
      try simp only
      split at hc
      · rename_i hl
        rw [if_pos hl]
        split at hc
        · rename_i s1 h1
          rw [abn (ih ·) (Nat.le_succ n) _ _ _ h1]
          exact hc
        · rename_i s1 h1
          rw [abn (ih ·) (Nat.le_succ n) _ _ _ h1]
          exact hc
        · cases hc
      · cases hc
theorem aaz (p:Prog) {n n':Nat} (h:n≤n'):∀ f s o,evF p n f s=some o→evF p n' f s=some o:=by
  induction h with
  | refl=>intro f s o hc;exact hc
  | step _ ih=>intro f s o hc;exact atm p _ _ _ _ (ih _ _ _ hc)
def W (p:Prog) (c:C) (s:St) (Q:Ex→St→Prop):Prop:=∃ n ex s',evC (evF p n) n c s=some (ex,s')∧Q ex s'
def WI (p:Prog) (is:List I) (s:St) (K:St→Prop):Prop:=∃ n s',evIs (evF p n) is s=some s'∧K s'
def WL (p:Prog) (lv:List Nat) (ow:List (Nat × Nat)) (om:List (Nat × Nat × Nat)) (c:C) (nb:Nat) (s:St) (Q:Ex→St→Prop):Prop:=
  ∃ n ex s',rounds (fun s'=>evC (evF p n) n c (s'.head lv ow om nb)) n s=some (ex,s')∧Q ex s'
def Call (p:Prog) (f:Nat) (s:St) (K:Out→Prop):Prop:=∃ n o,evF p n f s=some o∧K o
def Do (o:Option St) (K:St→Prop):Prop:=∃ s,o=some s∧K s
def DoX (o:Option (St × Xp)) (K:St→Xp→Prop):Prop:=∃ s xp,o=some (s,xp)∧K s xp
def DoO (o:Option Out) (K:Out→Prop):Prop:=∃ v,o=some v∧K v
def thenQ (K:St→Prop) (Q:Ex→St→Prop):Ex→St→Prop
  | .n,s=>K s
  | ex,s=>Q ex s
def blkQ (id:Nat) (Q:Ex→St→Prop):Ex→St→Prop
  | .x id',s=>if id'=id then Q .n s else Q (.x id') s
  | ex,s=>Q ex s
def condW (v:V) (A B:Prop):Prop:=match v with | .b c=>if c=true then A else B | _=>False
def gW (v:V) (w:Bool) (A B:Prop):Prop:=match gd v w with | some true=>A | some false=>B | none=>False
def finQ (rs:List Rs) (nb:Nat) (K:Out→Prop):Ex→St→Prop
  | .n,s=>DoO (s.out rs nb) K
  | .r,s=>DoO (s.out rs nb) K
  | .x _,_=>False
@[irreducible] def Tag {α:Sort u} (x:α):α:=x
@[simp] theorem Tag_eq {α:Sort u} (x:α):Tag x=x:=by unfold Tag;rfl
@[congr] theorem W_congr {p:Prog} {c:C} {s s':St} {Q:Ex→St→Prop} (h:Tag s=s'):W p c s Q=W p c s' Q:=by rw [← h,Tag_eq]
@[congr] theorem WI_congr {p:Prog} {is:List I} {s s':St} {K:St→Prop} (h:Tag s=s'):WI p is s K=WI p is s' K:=by rw [← h,Tag_eq]
@[congr] theorem WL_congr {p:Prog} {lv:List Nat} {ow:List (Nat × Nat)} {om:List (Nat × Nat × Nat)} {c:C} {nb nb':Nat} {s s':St} {Q:Ex→St→Prop} (h:Tag s=s') (h2:Tag nb=nb'):WL p lv ow om c nb s Q=WL p lv ow om c nb' s' Q:=by rw [← h,← h2,Tag_eq,Tag_eq]
@[congr] theorem Call_congr {p:Prog} {f:Nat} {s s':St} {K:Out→Prop} (h:Tag s=s'):Call p f s K=Call p f s' K:=by rw [← h,Tag_eq]
@[congr] theorem Do_congr {o o':Option St} {K:St→Prop} (h:Tag o=o'):Do o K=Do o' K:=by rw [← h,Tag_eq]
@[congr] theorem DoX_congr {o o':Option (St × Xp)} {K:St→Xp→Prop} (h:Tag o=o'):DoX o K=DoX o' K:=by rw [← h,Tag_eq]
@[congr] theorem DoO_congr {o o':Option Out} {K:Out→Prop} (h:Tag o=o'):DoO o K=DoO o' K:=by rw [← h,Tag_eq]
@[congr] theorem thenQ_congr {K:St→Prop} {Q:Ex→St→Prop} {e e':Ex} {s s':St} (h:Tag e=e') (h2:Tag s=s'):thenQ K Q e s=thenQ K Q e' s':=by rw [← h,← h2,Tag_eq,Tag_eq]
@[congr] theorem blkQ_congr {id:Nat} {Q:Ex→St→Prop} {e e':Ex} {s s':St} (h:Tag e=e') (h2:Tag s=s'):blkQ id Q e s=blkQ id Q e' s':=by rw [← h,← h2,Tag_eq,Tag_eq]
@[congr] theorem finQ_congr {rs:List Rs} {nb nb':Nat} {K:Out→Prop} {e e':Ex} {s s':St} (h:Tag e=e') (h2:Tag s=s') (h3:Tag nb=nb'):finQ rs nb K e s=finQ rs nb' K e' s':=by rw [← h,← h2,← h3,Tag_eq,Tag_eq,Tag_eq]
@[congr] theorem condW_congr {v v':V} {A B:Prop} (h:Tag v=v'):condW v A B=condW v' A B:=by rw [← h,Tag_eq]
@[congr] theorem gW_congr {v v':V} {w:Bool} {A B:Prop} (h:Tag v=v'):gW v w A B=gW v' w A B:=by rw [← h,Tag_eq]
theorem akv (s:St) (K:St→Prop):Do (some s) K=K s:=by simp [Do]
theorem aku (s:St) (xp:Xp) (K:St→Xp→Prop):DoX (some (s,xp)) K=K s xp:=by
  apply propext;constructor
  · rintro ⟨a,b,h,hk⟩;cases h;exact hk
  · intro h;exact ⟨_,_,rfl,h⟩
theorem ac3 (s:Out) (K:Out→Prop):DoO (some s) K=K s:=by simp [DoO]
theorem av4 (K:St→Prop) (Q:Ex→St→Prop) (s:St):thenQ K Q .n s=K s:=rfl
theorem av6 (K:St→Prop) (Q:Ex→St→Prop) (id:Nat) (s:St):thenQ K Q (.x id) s=Q (.x id) s:=rfl
theorem av5 (K:St→Prop) (Q:Ex→St→Prop) (s:St):thenQ K Q .r s=Q .r s:=rfl
theorem blkQ_n (id:Nat) (Q:Ex→St→Prop) (s:St):blkQ id Q .n s=Q .n s:=rfl
theorem blkQ_x (id id':Nat) (Q:Ex→St→Prop) (s:St):blkQ id Q (.x id') s=if id'=id then Q .n s else Q (.x id') s:=rfl
theorem blkQ_r (id:Nat) (Q:Ex→St→Prop) (s:St):blkQ id Q .r s=Q .r s:=rfl
theorem finQ_n (rs:List Rs) (nb:Nat) (K:Out→Prop) (s:St):finQ rs nb K .n s=DoO (s.out rs nb) K:=rfl
theorem finQ_r (rs:List Rs) (nb:Nat) (K:Out→Prop) (s:St):finQ rs nb K .r s=DoO (s.out rs nb) K:=rfl
theorem auy (A B:Prop):condW (.b true) A B=A:=by simp [condW]
theorem aux (A B:Prop):condW (.b false) A B=B:=by simp [condW]
theorem gW_t (A B:Prop):gW (.b true) true A B=A:=rfl
theorem gW_f (A B:Prop):gW (.b false) false A B=A:=rfl
theorem gW_tf (A B:Prop):gW (.b true) false A B=B:=rfl
theorem gW_ft (A B:Prop):gW (.b false) true A B=B:=rfl
theorem gW_u (w:Bool) (A B:Prop):gW (.tup []) w A B=B:=rfl
section
variable {p:Prog}
theorem W_r (is:List I) (s:St) (Q:Ex→St→Prop):W p (.r is) s Q=WI p is s (fun s'=>Q .n s'):=by
  apply propext
  constructor
  · rintro ⟨n,ex,s',h,hq⟩
    unfold evC at h
    obtain ⟨s1,hs,he⟩:=Option.map_eq_some_iff.1 h
    cases he
    exact ⟨n,_,hs,hq⟩
  · rintro ⟨n,s',h,hq⟩
    exact ⟨n,.n,s',by unfold evC;rw [h];rfl,hq⟩
theorem apo {α:Type} {R:α→Nat→Prop} (mono:∀ a n m,n≤m→R a n→R a m):∀ l:List α,(∀ a,a ∈ l→∃ n,R a n)→∃ n,∀ a,a ∈ l→R a n
  | [],_=>⟨0,fun _ h=>by cases h⟩
  | x :: l,h=>by
    obtain ⟨n1,h1⟩:=h x (by simp)
    obtain ⟨n2,h2⟩:=apo mono l fun a ha=>h a (by simp [ha])
    refine ⟨max n1 n2,fun a ha=>?_⟩
    rcases List.mem_cons.1 ha with rfl | ha
    · exact mono _ _ _ (Nat.le_max_left _ _) h1
    · exact mono _ _ _ (Nat.le_max_right _ _) (h2 a ha)
theorem W_ra (is:List I) (cs:List Nat) (q:List Nat) (ps:List (List Nat)) (s:St) (Q:Ex→St→Prop):
    W p (.ra is cs (q :: ps)) s Q=WI p (q.map (isD is)) s (fun s'=>(∀ q',q' ∈ ps→WI p (q'.map (isD is)) s (fun s''=>s''=s'))∧Q .n s'):=by
  apply propext
  constructor
  · rintro ⟨n,ex,s',h,hq⟩
    simp only [evC] at h
    split at h
    · rename_i s1 h1
      split at h
      · rename_i ha
        cases h
        exact ⟨n,_,h1,fun q' hm=>⟨n,_,ha q' hm,rfl⟩,hq⟩
      · cases h
    · cases h
  · rintro ⟨n,s',h,ha,hq⟩
    obtain ⟨n2,h2⟩:=apo (R:=fun q' n=>evIs (evF p n) (q'.map (isD is)) s=some s') (by intro a n m hnm x;exact aby (aaz p hnm) _ _ _ x) ps (fun q' hm=>by
      obtain ⟨n,s2,e,rfl⟩:=ha q' hm
      exact ⟨n,e⟩)
    refine ⟨max n n2,.n,s',?_,hq⟩
    simp only [evC]
    rw [aby (aaz p (Nat.le_max_left n n2)) _ _ _ h]
    simp only
    rw [if_pos fun q' hm=>aby (aaz p (Nat.le_max_right n n2)) _ _ _ (h2 q' hm)]
theorem W_seq (a b:C) (s:St) (Q:Ex→St→Prop):W p (.seq a b) s Q=W p a s (thenQ (fun s'=>W p b s' Q) Q):=by
  apply propext
  constructor
  · rintro ⟨n,ex,s',h,hq⟩
    unfold evC at h
    split at h
    · rename_i s1 h1
      exact ⟨n,.n,s1,h1,n,ex,s',h,hq⟩
    · rename_i o hne
      refine ⟨n,ex,s',h,?_⟩
      cases ex with
      | n=>exact absurd h (hne _)
      | x id=>exact hq
      | r=>exact hq
  · rintro ⟨n,ex,s',h,hq⟩
    cases ex with
    | n=>
      obtain ⟨n2,ex2,s2,h2,hq2⟩:=hq
      refine ⟨max n n2,ex2,s2,?_,hq2⟩
      unfold evC
      rw [abn (aaz p (Nat.le_max_left n n2)) (Nat.le_max_left n n2) _ _ _ h]
      exact abn (aaz p (Nat.le_max_right n n2)) (Nat.le_max_right n n2) _ _ _ h2
    | x id=>exact ⟨n,.x id,s',by unfold evC;rw [h],hq⟩
    | r=>exact ⟨n,.r,s',by unfold evC;rw [h],hq⟩
theorem W_cond (x:X) (a b:C) (s:St) (Q:Ex→St→Prop):W p (.cond x a b) s Q=condW (s.ev x) (W p a s Q) (W p b s Q):=by
  apply propext
  unfold condW
  constructor
  · rintro ⟨n,ex,s',h,hq⟩
    unfold evC at h
    split at h
    · rename_i c hc
      rw [hc]
      simp only
      split at h
      · rename_i hw;rw [if_pos hw];exact ⟨n,ex,s',h,hq⟩
      · rename_i hw;rw [if_neg hw];exact ⟨n,ex,s',h,hq⟩
    · cases h
  · intro h
    split at h
    · rename_i c hc
      split at h
      · rename_i hw;obtain ⟨n,ex,s',h,hq⟩:=h;exact ⟨n,ex,s',by unfold evC;rw [hc];simp only [hw,if_true];exact h,hq⟩
      · rename_i hw;obtain ⟨n,ex,s',h,hq⟩:=h;exact ⟨n,ex,s',by unfold evC;rw [hc];simp only;rw [if_neg hw];exact h,hq⟩
    · exact h.elim
theorem W_blk (id:Nat) (c:C) (s:St) (Q:Ex→St→Prop):W p (.blk id c) s Q=W p c s (blkQ id Q):=by
  apply propext
  constructor
  · rintro ⟨n,ex,s',h,hq⟩
    unfold evC at h
    split at h
    · rename_i id' s1 h1
      refine ⟨n,.x id',s1,h1,?_⟩
      rw [blkQ_x]
      split at h
      · rename_i hi;rw [if_pos hi];cases h;exact hq
      · rename_i hi;rw [if_neg hi];cases h;exact hq
    · rename_i o hne
      refine ⟨n,ex,s',h,?_⟩
      cases ex with
      | x id'=>exact absurd h (hne _ _)
      | n=>exact hq
      | r=>exact hq
  · rintro ⟨n,ex,s',h,hq⟩
    cases ex with
    | x id'=>
      rw [blkQ_x] at hq
      split at hq
      · rename_i hi;exact ⟨n,.n,s',by unfold evC;rw [h];simp only;rw [if_pos hi],hq⟩
      · rename_i hi;exact ⟨n,.x id',s',by unfold evC;rw [h];simp only;rw [if_neg hi],hq⟩
    | n=>exact ⟨n,.n,s',by unfold evC;rw [h],hq⟩
    | r=>exact ⟨n,.r,s',by unfold evC;rw [h],hq⟩
theorem W_loop (lv:List Nat) (ow:List (Nat × Nat)) (om:List (Nat × Nat × Nat)) (c:C) (s:St) (Q:Ex→St→Prop):W p (.loop lv ow om c) s Q=WL p lv ow om c s.m.length s Q:=rfl
theorem aq1 (lv:List Nat) (ow:List (Nat × Nat)) (om:List (Nat × Nat × Nat)) (c:C) (nb:Nat) (s:St) (Q:Ex→St→Prop):
    WL p lv ow om c nb s Q=W p c (s.head lv ow om nb) (thenQ (fun s'=>WL p lv ow om c nb s' Q) Q):=by
  apply propext
  constructor
  · rintro ⟨n,ex,s',h,hq⟩
    cases n with
    | zero=>cases h
    | succ n=>
      unfold rounds at h
      split at h
      · rename_i s1 h1
        refine ⟨n+1,.n,s1,h1,n+1,ex,s',?_,hq⟩
        exact agn (fun _ _ hh=>hh) _ _ (Nat.le_succ n) _ _ h
      · rename_i o hne
        refine ⟨n+1,ex,s',h,?_⟩
        cases ex with
        | n=>exact absurd h (hne _)
        | x id=>exact hq
        | r=>exact hq
  · rintro ⟨n,ex,s',h,hq⟩
    have up:∀ n1,n≤n1→evC (evF p n1) n1 c (s.head lv ow om nb)=some (ex,s'):=fun n1 hn=>abn (aaz p hn) hn _ _ _ h
    cases ex with
    | n=>
      obtain ⟨n2,ex2,s2,h2,hq2⟩:=hq
      refine ⟨max n n2+1,ex2,s2,?_,hq2⟩
      unfold rounds
      rw [up _ (by omega)]
      exact agn (fun _ _ hh=>abn (aaz p (by omega)) (by omega) _ _ _ hh) _ _ (by omega) _ _ h2
    | x id=>exact ⟨n+1,.x id,s',by unfold rounds;rw [up _ (by omega)],hq⟩
    | r=>exact ⟨n+1,.r,s',by unfold rounds;rw [up _ (by omega)],hq⟩
theorem W_ex (id:Nat) (s:St) (Q:Ex→St→Prop):W p (.ex id) s Q=Q (.x id) s:=by
  apply propext;constructor
  · rintro ⟨n,ex,s',h,hq⟩;cases h;exact hq
  · intro h;exact ⟨0,_,_,rfl,h⟩
theorem W_ret (s:St) (Q:Ex→St→Prop):W p .ret s Q=Q .r s:=by
  apply propext;constructor
  · rintro ⟨n,ex,s',h,hq⟩;cases h;exact hq
  · intro h;exact ⟨0,_,_,rfl,h⟩
theorem W_skip (s:St) (Q:Ex→St→Prop):W p .skip s Q=Q .n s:=by
  apply propext;constructor
  · rintro ⟨n,ex,s',h,hq⟩;cases h;exact hq
  · intro h;exact ⟨0,_,_,rfl,h⟩
theorem WI_nil (s:St) (K:St→Prop):WI p [] s K=K s:=by
  apply propext;constructor
  · rintro ⟨n,s',h,hq⟩;cases h;exact hq
  · intro h;exact ⟨0,_,rfl,h⟩
def I.plain:I→Bool
  | .call _ _ _=>false
  | .callv _ _ _=>false
  | .callg _ _ _=>false
  | .callr _ _ _=>false
  | .g _ _ _ _=>false
  | .ck _ _=>false
  | _=>true
theorem amq (call:Nat→St→Option Out) {i:I} (h:i.plain=true) (s:St):ev1 call i s=evI i s:=by
  cases i <;> first | rfl | (simp [I.plain] at h)
theorem aac {i:I} (h:i.plain=true) (is:List I) (s:St) (K:St→Prop):WI p (i :: is) s K=Do (evI i s) (fun s'=>WI p is s' K):=by
  apply propext
  constructor
  · rintro ⟨n,s',hr,hq⟩
    unfold evIs at hr
    rw [amq _ h] at hr
    split at hr
    · rename_i s1 h1;exact ⟨s1,h1,n,s',hr,hq⟩
    · cases hr
  · rintro ⟨s1,h1,n,s',hr,hq⟩
    refine ⟨n,s',?_,hq⟩
    unfold evIs
    rw [amq _ h,h1]
    exact hr
theorem WI_ck (c:Ck) (i:I) (is:List I) (s:St) (K:St→Prop):WI p (.ck c i :: is) s K=(ckS s c i=true∧WI p (i :: is) s K):=by
  apply propext
  constructor
  · rintro ⟨n,s',hr,hq⟩
    unfold evIs at hr
    rw [ev1] at hr
    by_cases h:ckS s c i=true
    · rw [if_pos h] at hr
      exact ⟨h,n,s',by unfold evIs;exact hr,hq⟩
    · rw [if_neg h] at hr;cases hr
  · rintro ⟨h,n,s',hr,hq⟩
    refine ⟨n,s',?_,hq⟩
    unfold evIs at hr ⊢
    rw [ev1,if_pos h]
    exact hr
theorem WI_g (sl:Nat) (w:Bool) (d:Option Nat) (i:I) (is:List I) (s:St) (K:St→Prop):
    WI p (.g sl w d i :: is) s K=gW (s.t.getD sl .no) w (WI p (i :: is) s K) (WI p is (s.putO d (.tup [])) K):=by
  apply propext
  unfold gW
  cases hg:gd (s.t.getD sl .no) w with
  | none=>
    simp only
    constructor
    · rintro ⟨n,s',hr,hq⟩
      unfold evIs ev1 at hr
      rw [hg] at hr
      cases hr
    · exact fun x=>x.elim
  | some b=>
    cases b with
    | true=>
      simp only
      constructor
      · rintro ⟨n,s',hr,hq⟩
        refine ⟨n,s',?_,hq⟩
        unfold evIs at hr ⊢
        unfold ev1 at hr
        rw [hg] at hr
        exact hr
      · rintro ⟨n,s',hr,hq⟩
        refine ⟨n,s',?_,hq⟩
        unfold evIs at hr ⊢
        unfold ev1
        rw [hg]
        exact hr
    | false=>
      simp only
      constructor
      · rintro ⟨n,s',hr,hq⟩
        unfold evIs ev1 at hr
        rw [hg] at hr
        exact ⟨n,s',hr,hq⟩
      · rintro ⟨n,s',hr,hq⟩
        refine ⟨n,s',?_,hq⟩
        unfold evIs ev1
        rw [hg]
        exact hr
theorem amf (i:I) (d:Option Nat) (f:Nat) (as:List (X × Md)) (caps:List V) (is:List I) (s:St) (K:St→Prop) (hi:∀ call,ev1 call i s=doCall call s d f as caps):
    WI p (i :: is) s K=DoX (expo s as caps) (fun s0 xp=>Call p f s0 (fun o=>WI p is (impoF f s xp d o.1 o.2.1 o.2.2) K)):=by
  apply propext
  constructor
  · rintro ⟨n,s',hr,hq⟩
    unfold evIs at hr
    rw [hi] at hr
    unfold doCall at hr
    split at hr
    · rename_i s1 h1
      split at h1
      · cases h1
      · rename_i s0 xp he
        split at h1
        · cases h1
        · rename_i v m r hv
          cases h1
          exact ⟨s0,xp,he,n,_,hv,n,s',hr,hq⟩
    · cases hr
  · rintro ⟨s0,xp,he,n,o,hv,n2,s',hr,hq⟩
    refine ⟨max n n2,s',?_,hq⟩
    unfold evIs
    rw [hi]
    unfold doCall
    rw [he]
    simp only
    rw [aaz p (Nat.le_max_left n n2) _ _ _ hv]
    exact aby (aaz p (Nat.le_max_right n n2)) _ _ _ hr
theorem an3 (d:Option Nat) (f:Nat) (as:List (X × Md)) (is:List I) (s:St) (K:St→Prop):
    WI p (.call d f as :: is) s K=DoX (expo s as []) (fun s0 xp=>Call p f s0 (fun o=>WI p is (impoF f s xp d o.1 o.2.1 o.2.2) K)):=
  amf _ _ _ _ _ _ _ _ (fun _=>rfl)
def DoF (v:V) (K:Nat→List V→Prop):Prop:=match v with | .fn f caps=>K f caps | _=>False
@[congr] theorem DoF_congr {v v':V} {K:Nat→List V→Prop} (h:Tag v=v'):DoF v K=DoF v' K:=by rw [← h,Tag_eq]
theorem DoF_fn (f:Nat) (caps:List V) (K:Nat→List V→Prop):DoF (.fn f caps) K=K f caps:=rfl
theorem akz (d:Option Nat) (x:X) (as:List (X × Md)) (is:List I) (s:St) (K:St→Prop):
    WI p (.callv d x as :: is) s K=DoF (s.ev x) (fun f caps=>DoX (expo s as caps) (fun s0 xp=>Call p f s0 (fun o=>WI p is (impoF f s xp d o.1 o.2.1 o.2.2) K))):=by
  cases hv:s.ev x with
  | fn f caps=>rw [DoF_fn];exact amf _ _ _ _ _ _ _ _ (fun _=>by unfold ev1;rw [hv])
  | _=>
    apply propext
    constructor
    · rintro ⟨n,s',hr,hq⟩
      unfold evIs ev1 at hr
      rw [hv] at hr
      cases hr
    · intro h;exact h.elim
theorem aun {f np nt:Nat} {rs:List Rs} {body:C} (hp:p f=some (.ir np nt rs body)) (s:St) (hl:s.t.length=np) (K:Out→Prop):
    Call p f s K=W p body ⟨s.t++List.replicate (nt - np) .no,s.m,s.r⟩ (finQ rs s.m.length K):=by
  apply propext
  constructor
  · rintro ⟨n,o,h,hk⟩
    cases n with
    | zero=>cases h
    | succ n=>
      unfold evF at h
      rw [hp] at h
      simp only at h
      rw [if_pos hl] at h
      split at h
      · rename_i s1 h1;exact ⟨n,.n,s1,h1,o,h,hk⟩
      · rename_i s1 h1;exact ⟨n,.r,s1,h1,o,h,hk⟩
      · cases h
  · rintro ⟨n,ex,s',h,hq⟩
    cases ex with
    | n=>
      obtain ⟨o,ho,hk⟩:=hq
      refine ⟨n+1,o,?_,hk⟩
      unfold evF
      rw [hp]
      simp only
      rw [if_pos hl,h]
      exact ho
    | r=>
      obtain ⟨o,ho,hk⟩:=hq
      refine ⟨n+1,o,?_,hk⟩
      unfold evF
      rw [hp]
      simp only
      rw [if_pos hl,h]
      exact ho
    | x id=>exact hq.elim
def finP (pc:Nat) (rs:List Rs) (nb:Nat) (K:Out→Prop):Ex→St→Prop
  | .n,s=>DoO (s.outP pc rs nb) K
  | .r,s=>DoO (s.outP pc rs nb) K
  | .x _,_=>False
@[congr] theorem finP_congr {pc:Nat} {rs:List Rs} {nb nb':Nat} {K:Out→Prop} {e e':Ex} {s s':St} (h:Tag e=e') (h2:Tag s=s') (h3:Tag nb=nb'):finP pc rs nb K e s=finP pc rs nb' K e' s':=by rw [← h,← h2,← h3,Tag_eq,Tag_eq,Tag_eq]
theorem finP_n (pc:Nat) (rs:List Rs) (nb:Nat) (K:Out→Prop) (s:St):finP pc rs nb K .n s=DoO (s.outP pc rs nb) K:=rfl
theorem finP_r (pc:Nat) (rs:List Rs) (nb:Nat) (K:Out→Prop) (s:St):finP pc rs nb K .r s=DoO (s.outP pc rs nb) K:=rfl
theorem as2 {f np nt:Nat} {rs:List Rs} {body:C} (hp:p f=some (.pin np nt rs body)) (s:St) (hl:s.t.length=np) (hb:body.pinned s.r.length=true) (K:Out→Prop):
    Call p f s K=W p body ⟨s.t++List.replicate (nt - np) .no,s.m,s.r⟩ (finP s.r.length rs s.m.length K):=by
  apply propext
  constructor
  · rintro ⟨n,o,h,hk⟩
    cases n with
    | zero=>cases h
    | succ n=>
      unfold evF at h
      rw [hp] at h
      simp only at h
      rw [if_pos ⟨hl,hb⟩] at h
      split at h
      · rename_i s1 h1;exact ⟨n,.n,s1,h1,o,h,hk⟩
      · rename_i s1 h1;exact ⟨n,.r,s1,h1,o,h,hk⟩
      · cases h
  · rintro ⟨n,ex,s',h,hq⟩
    cases ex with
    | n=>
      obtain ⟨o,ho,hk⟩:=hq
      refine ⟨n+1,o,?_,hk⟩
      unfold evF
      rw [hp]
      simp only
      rw [if_pos ⟨hl,hb⟩,h]
      exact ho
    | r=>
      obtain ⟨o,ho,hk⟩:=hq
      refine ⟨n+1,o,?_,hk⟩
      unfold evF
      rw [hp]
      simp only
      rw [if_pos ⟨hl,hb⟩,h]
      exact ho
    | x id=>exact hq.elim
def finF (rs:List Rs) (nb:Nat) (K:Out→Prop):Ex→St→Prop
  | .n,s=>DoO (s.outF rs nb) K
  | .r,s=>DoO (s.outF rs nb) K
  | .x _,_=>False
@[congr] theorem finF_congr {rs:List Rs} {nb nb':Nat} {K:Out→Prop} {e e':Ex} {s s':St} (h:Tag e=e') (h2:Tag s=s') (h3:Tag nb=nb'):finF rs nb K e s=finF rs nb' K e' s':=by rw [← h,← h2,← h3,Tag_eq,Tag_eq,Tag_eq]
theorem finF_n (rs:List Rs) (nb:Nat) (K:Out→Prop) (s:St):finF rs nb K .n s=DoO (s.outF rs nb) K:=rfl
theorem finF_r (rs:List Rs) (nb:Nat) (K:Out→Prop) (s:St):finF rs nb K .r s=DoO (s.outF rs nb) K:=rfl
theorem as0 {f np nt:Nat} {rs:List Rs} {body:C} (hp:p f=some (.fin np nt rs body)) (s:St) (hl:s.t.length=np) (K:Out→Prop):
    Call p f s K=W p body ⟨s.t++List.replicate (nt - np) .no,s.m,s.r⟩ (finF rs s.m.length K):=by
  apply propext
  constructor
  · rintro ⟨n,o,h,hk⟩
    cases n with
    | zero=>cases h
    | succ n=>
      unfold evF at h
      rw [hp] at h
      simp only at h
      rw [if_pos hl] at h
      split at h
      · rename_i s1 h1;exact ⟨n,.n,s1,h1,o,h,hk⟩
      · rename_i s1 h1;exact ⟨n,.r,s1,h1,o,h,hk⟩
      · cases h
  · rintro ⟨n,ex,s',h,hq⟩
    cases ex with
    | n=>
      obtain ⟨o,ho,hk⟩:=hq
      refine ⟨n+1,o,?_,hk⟩
      unfold evF
      rw [hp]
      simp only
      rw [if_pos hl,h]
      exact ho
    | r=>
      obtain ⟨o,ho,hk⟩:=hq
      refine ⟨n+1,o,?_,hk⟩
      unfold evF
      rw [hp]
      simp only
      rw [if_pos hl,h]
      exact ho
    | x id=>exact hq.elim
def finG (rs:List Rs) (K:Out→Prop):Ex→St→Prop
  | .n,s=>∃ v,s.res rs=some v∧K (v,s.m,s.r)
  | .r,s=>∃ v,s.res rs=some v∧K (v,s.m,s.r)
  | .x _,_=>False
@[congr] theorem finG_congr {rs:List Rs} {K:Out→Prop} {e e':Ex} {s s':St} (h:Tag e=e') (h2:Tag s=s'):finG rs K e s=finG rs K e' s':=by rw [← h,← h2,Tag_eq,Tag_eq]
theorem as1 {f np nt:Nat} {rs:List Rs} {body:C} (hp:p f=some (.glb np nt rs body)) (ts:List V) (m:List (List V)) (r:List Rw) (hl:ts.length=np) (hb:body.glob=true) (K:Out→Prop):
    Call p f ⟨gmk :: ts,m,r⟩ K=W p body ⟨ts++List.replicate (nt - np) .no,m,r⟩ (finG rs K):=by
  apply propext
  constructor
  · rintro ⟨n,o,h,hk⟩
    cases n with
    | zero=>cases h
    | succ n=>
      unfold evF at h
      rw [hp] at h
      simp only [gmk] at h
      rw [if_pos ⟨hl,hb⟩] at h
      split at h
      · rename_i s1 h1
        obtain ⟨v,hv,rfl⟩:=Option.map_eq_some_iff.1 h
        exact ⟨n,.n,s1,h1,v,hv,hk⟩
      · rename_i s1 h1
        obtain ⟨v,hv,rfl⟩:=Option.map_eq_some_iff.1 h
        exact ⟨n,.r,s1,h1,v,hv,hk⟩
      · cases h
  · rintro ⟨n,ex,s',h,hq⟩
    cases ex with
    | n=>
      obtain ⟨v,hv,hk⟩:=hq
      refine ⟨n+1,_,?_,hk⟩
      unfold evF
      rw [hp]
      simp only [gmk]
      rw [if_pos ⟨hl,hb⟩,h]
      simp only [hv,Option.map_some]
    | r=>
      obtain ⟨v,hv,hk⟩:=hq
      refine ⟨n+1,_,?_,hk⟩
      unfold evF
      rw [hp]
      simp only [gmk]
      rw [if_pos ⟨hl,hb⟩,h]
      simp only [hv,Option.map_some]
    | x id=>exact hq.elim
theorem as4 (d:Option Nat) (f:Nat) (as:List X) (is:List I) (s:St) (K:St→Prop) (hf:5000≤f):
    WI p (.callg d f as :: is) s K=Call p f ⟨gmk :: as.map s.ev,s.m,s.r⟩ (fun o=>WI p is ((St.mk s.t o.2.1 o.2.2).putO d o.1) K):=by
  apply propext
  constructor
  · rintro ⟨n,s',hr,hq⟩
    unfold evIs at hr
    simp only [ev1,if_pos hf] at hr
    split at hr
    · rename_i s1 h1
      obtain ⟨o,ho,rfl⟩:=Option.map_eq_some_iff.1 h1
      exact ⟨n,o,ho,n,s',hr,hq⟩
    · cases hr
  · rintro ⟨n,o,ho,n2,s',hr,hq⟩
    refine ⟨max n n2,s',?_,hq⟩
    unfold evIs
    simp only [ev1,if_pos hf]
    rw [aaz p (Nat.le_max_left n n2) _ _ _ ho]
    exact aby (aaz p (Nat.le_max_right n n2)) _ _ _ hr
theorem as5 (d:Option Nat) (f:Nat) (as:List (X × Nat)) (is:List I) (s:St) (K:St→Prop):
    WI p (.callr d f as :: is) s K=Call p f ⟨as.map fun a=>rlendA s a.2 (s.ev a.1),[],[]⟩ (fun o=>scalT o.1=true∧WI p is (s.putO d o.1) K):=by
  apply propext
  constructor
  · rintro ⟨n,s',hr,hq⟩
    unfold evIs at hr
    simp only [ev1] at hr
    split at hr
    · rename_i s1 h1
      split at h1
      · rename_i o ho
        split at h1
        · rename_i hs
          cases h1
          exact ⟨n,o,ho,hs,n,s',hr,hq⟩
        · cases h1
      · cases h1
    · cases hr
  · rintro ⟨n,o,ho,hs,n2,s',hr,hq⟩
    refine ⟨max n n2,s',?_,hq⟩
    unfold evIs
    simp only [ev1]
    rw [aaz p (Nat.le_max_left n n2) _ _ _ ho]
    simp only [hs,if_true]
    exact aby (aaz p (Nat.le_max_right n n2)) _ _ _ hr
theorem abw {f:Nat} {sem:St→Option Out} (hp:p f=some (.intr sem)) (s:St) (K:Out→Prop):Call p f s K=DoO (sem s) K:=by
  apply propext
  constructor
  · rintro ⟨n,o,h,hk⟩
    cases n with
    | zero=>cases h
    | succ n=>
      unfold evF at h
      rw [hp] at h
      exact ⟨o,h,hk⟩
  · rintro ⟨o,h,hk⟩
    exact ⟨1,o,by unfold evF;rw [hp];exact h,hk⟩
theorem aeh {f:Nat} {s:St} {o:Out} (h:Call p f s (fun x=>x=o)) (K:Out→Prop):Call p f s K=K o:=by
  apply propext
  obtain ⟨n,o1,h1,rfl⟩:=h
  constructor
  · rintro ⟨n2,o2,h2,hk⟩
    have e1:=aaz p (Nat.le_max_left n n2) _ _ _ h1
    have e2:=aaz p (Nat.le_max_right n n2) _ _ _ h2
    rw [e1] at e2
    cases e2
    exact hk
  · intro hk;exact ⟨n,o1,h1,hk⟩
theorem W_mono {c:C} {s:St} {Q Q':Ex→St→Prop} (h:∀ e s,Q e s→Q' e s):W p c s Q→W p c s Q':=fun ⟨n,e,s',hr,hq⟩=>⟨n,e,s',hr,h _ _ hq⟩
def Less (Inv:Nat→St→Prop) (n:Nat) (s:St):Prop:=∃ m,m<n∧Inv m s
@[congr] theorem Less_congr {Inv:Nat→St→Prop} {n:Nat} {s s':St} (h:Tag s=s'):Less Inv n s=Less Inv n s':=by rw [← h,Tag_eq]
theorem WL_inv {lv:List Nat} {ow:List (Nat × Nat)} {om:List (Nat × Nat × Nat)} {c:C} {nb:Nat} {Q:Ex→St→Prop} (Inv:Nat→St→Prop)
    (hstep:∀ n s,Inv n s→W p c s (thenQ (fun s'=>Less Inv n (s'.head lv ow om nb)) Q)) (n:Nat) (s:St) (h:Inv n (s.head lv ow om nb)):WL p lv ow om c nb s Q:=by
  induction n using Nat.strongRecOn generalizing s with
  | _ n ih=>
    rw [aq1]
    refine W_mono ?_ (hstep n _ h)
    intro e s' hq
    cases e with
    | n=>obtain ⟨m,hm,hi⟩:=hq;exact ih m hm s' hi
    | x id=>exact hq
    | r=>exact hq
end
end Go.VS
