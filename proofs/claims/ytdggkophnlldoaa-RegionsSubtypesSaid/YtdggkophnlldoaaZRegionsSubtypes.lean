/- The walk of the law RegionsSubtypes. -/

